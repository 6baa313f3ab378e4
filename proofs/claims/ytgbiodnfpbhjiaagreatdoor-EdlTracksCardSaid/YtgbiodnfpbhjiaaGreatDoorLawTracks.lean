/-
  Walk of the law EdlTracks.
  Conditions: the list given and the numbers lie in memory; the table of powers is laid.
-/
import Derived.Test.YtgbiodnfpbhjiaaGreatDoorWalkUe
import Derived.Test.YtgbiodnfpbhjiaaGreatDoorLawLines
namespace Go.Proofs.YtgbiodnfpbhjiaaGreatDoor
open Go.RowKit Go.Lib
set_option linter.unusedSimpArgs false
set_option linter.unusedVariables false

theorem TrkP.gr {l : El} {E : Int} {v : Value} {w w' : World} (h : TrkP l E v w) (hg : Gr w w') : TrkP l E v w' := by
  rcases h with h | h | ⟨h1, h2, h3, ts, h4, h5⟩
  · exact .inl h
  · exact .inr (.inl h)
  · exact .inr (.inr ⟨h1, h2, h3, ts, h4.gr hg, h5⟩)
/-- two results of one list -/
theorem TrkP.pair {l : El} {E E' : Int} {v v' : Value} {w : World} (h : TrkP l E v w) (h' : TrkP l E' v' w) :
    E = E' ∧ ∃ ts ts', TrR w v ts ∧ TrR w v' ts' ∧ ts.map CM.c = ts'.map CM.c ∧ ts.length ≤ 64 ∧ ∀ c ∈ ts, c.c.ch.length ≤ 4611686018427387904 := by
  rcases h with ⟨h1, rfl, rfl⟩ | ⟨h1, h2, rfl, rfl⟩ | ⟨h1, h2, rfl, ts, h4, h5⟩
  · rcases h' with ⟨_, rfl, rfl⟩ | ⟨g1, _⟩ | ⟨g1, _⟩
    · exact ⟨rfl, [], [], TrR.nil _, TrR.nil _, rfl, by simp, fun c hc => by cases hc⟩
    · rw [h1] at g1; cases g1
    · rw [h1] at g1; cases g1
  · rcases h' with ⟨g1, _⟩ | ⟨_, _, rfl, rfl⟩ | ⟨_, g2, _⟩
    · rw [h1] at g1; cases g1
    · exact ⟨rfl, [], [], TrR.nil _, TrR.nil _, rfl, by simp, fun c hc => by cases hc⟩
    · omega
  · rcases h' with ⟨g1, _⟩ | ⟨_, g2, _⟩ | ⟨_, _, rfl, ts', g4, g5⟩
    · rw [h1] at g1; cases g1
    · omega
    · refine ⟨rfl, ts, ts', h4, g4, by rw [h5, g5], by rw [← List.length_map (f := CM.c), h5]; exact h2, fun c hc => ?_⟩
      obtain ⟨o1, o2, o3, o4⟩ := vEl_parts h1
      obtain ⟨d0, d1⟩ := day_bounds o1
      have := ((trkL_vc d0 d1 o4).1 c.c (by rw [← h5]; exact List.mem_map.2 ⟨c, hc, rfl⟩)).chn.1
      omega
theorem own_cap {W : World} {base size n : Nat} {e : TypeId} {v : Value} {xs : List Value} (h : W.ownsRow base e size v n xs) : ∀ a m c, v = .slice a m c → m ≤ c := fun a m c hv => by
  rcases h.2 with ⟨e1, _⟩ | ⟨g, cap, cur, e1, _, _, h3, _⟩
  · rw [e1] at hv; injection hv with h1 h2 h3; omega
  · rw [e1] at hv; injection hv with h1 h2 h4; omega
set_option maxRecDepth 20000 in
set_option maxHeartbeats 8000000 in
theorem lawTracks_core (a : Option Addr) (cap : Nat) (xs : List Int) (raw : El) (rv : Value) (w : World) (hraw : ElR w rv raw) (hrc : ∀ a n c, rv = .slice a n c → n ≤ c)
    (HM : Hid (∀ w0, Gr w w0 → Calls Tryz.prog 12 #[.slice a xs.length cap] w0 fun e w' => ∃ (l : El) (v : Value), e = .returned (l.val v) ∧ Gr w0 w' ∧ ElR w' v l ∧ (∀ a n c, v = .slice a n c → n ≤ c)))
    (HW : Hid (∀ w', Gr w w' → Calls Tryz.prog 15 #[] w' fun e w'' => e = .returned (.bool true) ∧ Gr w' w'')) :
    Calls Tryz.prog 4 #[raw.val rv, .slice a xs.length cap] w fun e w' => e = .returned (.bool true) ∧ Gr w w' := by
  have HT : Hid (∀ (l : El) (v : Value) (w' : World), ElR w' v l → (∀ a n c, v = .slice a n c → n ≤ c) → Calls Tryz.prog 16 #[l.val v] w' fun e w'' => ∃ v' E, e = .returned (.tuple #[v', .int .i64 E]) ∧ Gr w' w'' ∧ TrkP l E v' w'') := Lib.hid etrack_any
  have HR : Hid (∀ (l : El) (v : Value) (w' : World), ElR w' v l → Calls Tryz.prog 17 #[l.val v] w' fun e w'' => ∃ v' E, e = .returned (.tuple #[v', .int .i64 E]) ∧ Gr w' w'' ∧ TrkP l E v' w'') := Lib.hid rtrack_any
  have HE : Hid (∀ (l : El) (v v' : Value) (E E' : Int) (w' : World), TrkP l E v w' → TrkP l E' v' w' → E = E' ∧ Calls Tryz.prog 18 #[v, v'] w' fun e w'' => e = .returned (.bool true) ∧ Gr w' w'') := Lib.hid fun l v v' E E' w' h h' => by
    obtain ⟨h1, ts, ts', h2, h3, h4, h5, h6⟩ := h.pair h'
    refine ⟨h1, ?_⟩
    have := requal_any ts ts' v v' w' h2 h3 (by omega) h6
    rwa [decide_eq_true h4] at this
  obtain ⟨rl, hrl⟩ : ∃ rl : El, rl = raw := ⟨_, rfl⟩
  obtain ⟨ra, rcp, hrs, -⟩ := hraw.evs.shape
  rw [hrs] at hraw hrc ⊢
  rw [← hrl] at hraw
  obtain ⟨rt, rb, rd, revs⟩ := raw
  unfold El.val
  simp only at hrs ⊢
  have hb0 := Cel.new w #[.string rt, .int .i64 rb, .bool rd, .slice ra revs.length rcp] 24
  have hgA : Gr w (w.alloc (.cells #[.string rt, .int .i64 rb, .bool rd, .slice ra revs.length rcp] 24)) := (Gr.refl w).alloc _
  replace hrl := Lib.hid hrl
  replace hraw := Lib.hid hraw
  replace hrc := Lib.hid hrc
  clear hrs
  go_enter Tryz.func4, Tryz.ntmps4
  go_upto_region 1 with fail
  generalize w.alloc (.cells #[.string rt, .int .i64 rb, .bool rd, .slice ra revs.length rcp] 24) = W0 at *
  have hgd : Gr W0 W0.drew := (Gr.refl W0).drew
  replace hb0 := hb0.gr hgd
  replace hgA := hgA.trans hgd
  clear hgd
  refine wp_region_still (Keep 6 (fun x => Cel x w.heap.size [.string rt, .int .i64 rb, .bool rd, .slice ra revs.length rcp])) 6 rfl (by kernel_rfl) ?_
  show stillAny _ _ _ _ _ _ #[false, false, false, false, false, false] _ _
  generalize W0.drew = W1 at *
  refine still_pure 0 (v := .agg #[.string rt, .int .i64 rb, .bool rd, .slice ra revs.length rcp]) rfl (by kernel_rfl) (by kernel_rfl) (by kernel_rfl) (fun _ => hb0) rfl (fun wy hw => ?_) ?_
  · replace hw := hw (by decide)
    have q := hw.lt
    have q0 := (hw.2 0 _ rfl).1
    have q1 := (hw.2 1 _ rfl).1
    have q2 := (hw.2 2 _ rfl).1
    have q3 := (hw.2 3 _ rfl).1
    simp [execOp, go_sem, q, q0, q1, q2, q3]
  simp only [Act.put, List.setIfInBounds_toArray, List.set_cons_succ, List.set_cons_zero]
  refine still_pure 1 (v := .slice a xs.length cap) rfl (by kernel_rfl) (by kernel_rfl) (by kernel_rfl) (fun _ => hb0) rfl (fun w hw => ?_) ?_
  · simp [execOp, go_sem] <;> (intros; omega)
  simp only [Act.put, List.setIfInBounds_toArray, List.set_cons_succ, List.set_cons_zero]
  refine still_pure 5 (v := .int .i64 0) rfl (by kernel_rfl) (by kernel_rfl) (by kernel_rfl) (fun _ => hb0) rfl (fun w hw => ?_) ?_
  · simp [execOp, go_sem] <;> (intros; omega)
  simp only [Act.put, List.setIfInBounds_toArray, List.set_cons_succ, List.set_cons_zero]
  refine still_next (j := 2) (by kernel_rfl) (by rfl) (fun R hR => ?_)
  (try simp only [List.getElem_toArray, List.getElem_cons_succ, List.getElem_cons_zero])
  go_wp2_with (go_at_call 12; (with_reducible refine (HM.out _ hgA).mono ?_); rintro e w2 ⟨⟨mt, mb, md, mevs⟩, mv, rfl, hg2, hml, hmc⟩; obtain ⟨ma, mcp, rfl, -⟩ := hml.evs.shape; unfold El.val; simp only at hml hmc ⊢)
  have hb2 := hb0.gr hg2
  have hgw2 := hgA.trans hg2
  replace hml := Lib.hid hml
  replace hmc := Lib.hid hmc
  refine only_normal (hR _ _ (Keep.step (fun h => h.gr hg2)) ?_)
  clear hR R
  simp only [Act.put, List.setIfInBounds_toArray, List.set_cons_succ, List.set_cons_zero]
  refine still_next (j := 3) (by kernel_rfl) (by rfl) (fun R hR => ?_)
  (try simp only [List.getElem_toArray, List.getElem_cons_succ, List.getElem_cons_zero])
  go_wp2_with fail
  refine only_normal (hR _ _ (Keep.step (fun h => h.gr ((Gr.refl _).alloc _))) ?_)
  clear hR R
  simp only [Act.put, List.setIfInBounds_toArray, List.set_cons_succ, List.set_cons_zero]
  refine still_pure 4 (v := .int .i64 2) rfl (by kernel_rfl) (by kernel_rfl) (by kernel_rfl) (fun _ => hb2.gr ((Gr.refl _).alloc _)) rfl (fun w hw => ?_) ?_
  · simp [execOp, go_sem] <;> (intros; omega)
  simp only [Act.put, List.setIfInBounds_toArray, List.set_cons_succ, List.set_cons_zero]
  refine still_done (by kernel_rfl) ?_
  simp only [List.getElem_toArray, List.getElem_cons_succ, List.getElem_cons_zero, List.set_cons_succ, List.set_cons_zero]
  have hbx := Cel.new w2 #[.string rt, .int .i64 rb, .bool rd, .slice ra revs.length rcp, .string mt, .int .i64 mb, .bool md, .slice ma mevs.length mcp] 24
  have hgn : Gr w2 (w2.alloc (.cells #[.string rt, .int .i64 rb, .bool rd, .slice ra revs.length rcp, .string mt, .int .i64 mb, .bool md, .slice ma mevs.length mcp] 24)) := (Gr.refl w2).alloc _
  have hgw3 := hgw2.trans hgn
  have HL : ∀ j : Nat, j < 2 → ∃ (l : El) (ad : Option Addr) (n c : Nat), (w2.alloc (.cells #[.string rt, .int .i64 rb, .bool rd, .slice ra revs.length rcp, .string mt, .int .i64 mb, .bool md, .slice ma mevs.length mcp] 24)).cell? ⟨w2.heap.size, j * 4, none⟩ = some (.string l.title) ∧ (w2.alloc (.cells #[.string rt, .int .i64 rb, .bool rd, .slice ra revs.length rcp, .string mt, .int .i64 mb, .bool md, .slice ma mevs.length mcp] 24)).cell? ⟨w2.heap.size, j * 4 + 1, none⟩ = some (.int .i64 l.base) ∧ (w2.alloc (.cells #[.string rt, .int .i64 rb, .bool rd, .slice ra revs.length rcp, .string mt, .int .i64 mb, .bool md, .slice ma mevs.length mcp] 24)).cell? ⟨w2.heap.size, j * 4 + 2, none⟩ = some (.bool l.drop) ∧ (w2.alloc (.cells #[.string rt, .int .i64 rb, .bool rd, .slice ra revs.length rcp, .string mt, .int .i64 mb, .bool md, .slice ma mevs.length mcp] 24)).cell? ⟨w2.heap.size, j * 4 + 3, none⟩ = some (.slice ad n c) ∧ ElR (w2.alloc (.cells #[.string rt, .int .i64 rb, .bool rd, .slice ra revs.length rcp, .string mt, .int .i64 mb, .bool md, .slice ma mevs.length mcp] 24)) (.slice ad n c) l ∧ (∀ a n' c', Value.slice ad n c = .slice a n' c' → n' ≤ c') := by
    intro j hj
    rcases (show j = 0 ∨ j = 1 by omega) with rfl | rfl
    · refine ⟨⟨rt, rb, rd, revs⟩, ra, revs.length, rcp, (hbx.2 0 _ rfl).1, (hbx.2 1 _ rfl).1, (hbx.2 2 _ rfl).1, (hbx.2 3 _ rfl).1, ?_, hrc.out⟩
      have h1 := hraw.out
      rw [hrl.out] at h1
      exact h1.gr hgw3
    · exact ⟨⟨mt, mb, md, mevs⟩, ma, mevs.length, mcp, (hbx.2 4 _ rfl).1, (hbx.2 5 _ rfl).1, (hbx.2 6 _ rfl).1, (hbx.2 7 _ rfl).1, hml.out.gr hgn, hmc.out⟩
  have hBl := hbx.lt
  replace HL := Lib.hid HL
  clear hbx hgn hb2 hb0 hgA hraw hrl hml hmc hrc hgw2 hg2 HM
  generalize w2.alloc (.cells #[.string rt, .int .i64 rb, .bool rd, .slice ra revs.length rcp, .string mt, .int .i64 mb, .bool md, .slice ma mevs.length mcp] 24) = W3 at *
  obtain ⟨Bk, hBk⟩ : ∃ Bk, w2.heap.size = Bk := ⟨_, rfl⟩
  rw [hBk] at HL hBl ⊢
  clear hBk
  go_wp2
  go_loopw [16] (fun i wr => ∃ j : Nat, j ≤ 2 ∧ i = .int .i64 j ∧ Gr W3 wr) (fun i _ => 2 - (RowKit.intOf i).toNat)
  case atStart => exact ⟨0, by omega, rfl, Gr.refl _⟩
  case round =>
    obtain ⟨j, hj, rfl, hg⟩ := hrel
    by_cases c1 : j < 2
    · have q1 : decide ((j : Int) < 2) = true := decide_eq_true (by omega)
      have q1' : decide (j < 2) = true := decide_eq_true c1
      obtain ⟨l, ad, n, c, z0, z1, z2, z3, hl, hc⟩ := HL.out j c1
      replace z0 := (hg.cells.1 Bk _ hBl).trans z0
      replace z1 := (hg.cells.1 Bk _ hBl).trans z1
      replace z2 := (hg.cells.1 Bk _ hBl).trans z2
      replace z3 := (hg.cells.1 Bk _ hBl).trans z3
      have hx := Nat.lt_of_lt_of_le hBl hg.size
      have hlr := hl.gr hg
      have HT1 := Lib.hid fun w' hg' => HT.out l (.slice ad n c) w' (hlr.gr hg') hc
      have HR1 := Lib.hid fun w' hg' => HR.out l (.slice ad n c) w' (hlr.gr hg')
      have HE1 := Lib.hid fun v v' E E' w' => HE.out l v v' E E' w'
      unfold El.val at HT1 HR1
      obtain ⟨P, hP⟩ : ∃ P : Int → Value → World → Prop, P = TrkP l := ⟨_, rfl⟩
      have hPg : Hid (∀ (E : Int) (v : Value) (w w' : World), P E v w → Gr w w' → P E v w') := Lib.hid (by rw [hP]; exact fun E v w w' h hg => h.gr hg)
      rw [← hP] at HT1 HR1 HE1
      obtain ⟨t, b, d, evs⟩ := l
      simp only at *
      clear hP hl hlr HT HR HE HL hc
      have hb := Cel.new wr #[.string t, .int .i64 b, .bool d, .slice ad n c] 24
      have hga : Gr wr (wr.alloc (.cells #[.string t, .int .i64 b, .bool d, .slice ad n c] 24)) := (Gr.refl wr).alloc _
      go_wp2_with (first
        | (go_at_call 16; (with_reducible refine (HT1.out _ hga).mono ?_); rintro e4 w4 ⟨v4, E4, rfl, hg4, hP4⟩; have hb4 := hb.gr hg4; have y := hb4.lt; have y0 := (hb4.2 0 _ rfl).1; have y1 := (hb4.2 1 _ rfl).1; have y2 := (hb4.2 2 _ rfl).1; have y3 := (hb4.2 3 _ rfl).1)
        | (go_at_call 17; (with_reducible refine (HR1.out _ (hga.trans hg4)).mono ?_); rintro e5 w5 ⟨v5, E5, rfl, hg5, hP5⟩; have hP45 := hPg.out _ _ _ _ hP4 hg5; obtain ⟨hEE, hEQ⟩ := HE1.out _ _ _ _ w5 hP45 hP5; subst hEE; replace hEQ := Lib.hid hEQ)
        | (go_at_call 18; (with_reducible refine hEQ.out.mono ?_); rintro e6 w6 ⟨rfl, hg6⟩))
      go_roundw
      case rel => exact ⟨j + 1, by omega, by go_num, hg.trans (((hga.trans hg4).trans hg5).trans hg6)⟩
      case measure => simp [RowKit.intOf]; omega
    · have q1 : decide ((j : Int) < 2) = false := decide_eq_false (by omega)
      have q1' : decide (j < 2) = false := decide_eq_false c1
      clear HT HR HE HL
      go_wp2_with (go_at_call 15; (with_reducible refine (HW.out _ (hgw3.trans hg)).mono ?_); rintro e9 w9 ⟨rfl, hg9⟩)
      go_ret
      exact ⟨rfl, (hgw3.trans hg).trans hg9⟩
theorem lawTracks_walk (a : Option Addr) (cap : Nat) (xs : List Int) (raw : El) (rv : Value) (w : World) (hraw : ElR w rv raw) (hrc : ∀ a n c, rv = .slice a n c → n ≤ c) (hA : TapeArg w a cap xs) (hT : Pow w) :
    Calls Tryz.prog 4 #[raw.val rv, .slice a xs.length cap] w fun e w' => e = .returned (.bool true) ∧ Gr w w' := by
  refine lawTracks_core a cap xs raw rv w hraw hrc (Lib.hid fun w0 hg => ?_) (Lib.hid fun w' hg => eawake_any w' (Pow.gr hg hT))
  refine (emade_any a cap xs w0 (hA.gr hg)).mono ?_
  rintro e w' ⟨l, v, base, rfl, hg2, hR, hown, hb, hM⟩
  exact ⟨l, v, rfl, hg2, hR, own_cap hown⟩
end Go.Proofs.YtgbiodnfpbhjiaaGreatDoor
