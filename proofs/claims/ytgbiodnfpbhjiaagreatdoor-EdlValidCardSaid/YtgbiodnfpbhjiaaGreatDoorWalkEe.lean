/-
  Contracts: which lists are valid, of package edl and of the reference.
  Conditions: the list lies in memory.
-/
import Derived.Test.YtgbiodnfpbhjiaaGreatDoorWalkEd
import Derived.Test.YtgbiodnfpbhjiaaGreatDoorWalk19B
namespace Go.Proofs.YtgbiodnfpbhjiaaGreatDoor
open Go.RowKit Go.Lib
set_option linter.unusedSimpArgs false
set_option linter.unusedVariables false

def eflat (es : List Ev) : List Value := es.flatMap Ev.cells
theorem eflat_length (es : List Ev) : (eflat es).length = es.length * 8 := by
  induction es with
  | nil => rfl
  | cons c cs ih =>
    rw [show eflat (c :: cs) = c.cells ++ eflat cs from rfl, List.length_append, ih]
    simp [Ev.cells]
    omega
theorem eflat_append (a b : List Ev) : eflat (a ++ b) = eflat a ++ eflat b := by unfold eflat; rw [List.flatMap_append]
theorem eflat_at (es : List Ev) (i : Nat) (hi : i < es.length) (j : Nat) (hj : j < 8) : (eflat es)[i * 8 + j]? = es[i].cells[j]? := by
  induction es generalizing i with
  | nil => simp at hi
  | cons c cs ih =>
    rw [show eflat (c :: cs) = c.cells ++ eflat cs from rfl]
    have hl : c.cells.length = 8 := rfl
    cases i with
    | zero =>
      rw [List.getElem?_append_left (by omega)]
      simp
    | succ i =>
      have h := ih i (by simpa using hi)
      rw [List.getElem?_append_right (by omega), hl, show (i + 1) * 8 + j - 8 = i * 8 + j by omega, h]
      simp
/-- v is a list of the events es -/
def EvsR (W : World) (v : Value) (es : List Ev) : Prop := Rd W v es.length 8 (eflat es)
theorem EvsR.gr {W w : World} {v : Value} {es : List Ev} (hg : Gr W w) (h : EvsR W v es) : EvsR w v es := Rd.gr hg h
theorem EvsR.nil (W : World) : EvsR W (.slice none 0 0) [] := Rd.nil W 8
theorem EvsR.shape {W : World} {v : Value} {es : List Ev} (h : EvsR W v es) : ∃ a cap, v = .slice a es.length cap ∧
    (es.length = 0 ∨ ∃ b o, a = some ⟨b, o, none⟩ ∧ b < W.heap.size ∧ ∀ (i : Nat) (hi : i < es.length) (j : Nat) (u : Value), es[i].cells[j]? = some u → W.cell? ⟨b, o + i * 8 + j, none⟩ = some u) := by
  obtain ⟨_, a, cap, rfl, h0 | ⟨b, o, rfl, hb, hc⟩⟩ := h
  · exact ⟨a, cap, rfl, .inl h0.1⟩
  · refine ⟨_, cap, rfl, .inr ⟨b, o, rfl, hb, fun i hi j u hu => ?_⟩⟩
    have hj : j < 8 := by
      have := (List.getElem?_eq_some_iff.1 hu).1
      exact this
    rw [Nat.add_assoc]
    exact hc _ _ (by rw [eflat_at es i hi j hj]; exact hu)
/-- a list of events, by value -/
structure El where
  title : ByteArray
  base : Int
  drop : Bool
  evs : List Ev
def El.val (l : El) (v : Value) : Value := .agg #[.string l.title, .int .i64 l.base, .bool l.drop, v]
def vEl (l : El) : Bool := C19.okB l.base l.drop && (vLine l.title && (decide (l.evs.length ≤ 999) && vEvs (C19.dayN l.base l.drop) 0 l.evs))
/-- what the memory of a list is -/
structure ElR (w : World) (v : Value) (l : El) : Prop where
  evs : EvsR w v l.evs
  t : l.title.size ≤ 140737488355328
  r : ∀ e ∈ l.evs, e.reel.size ≤ 140737488355328
  n : l.evs.length ≤ 140737488355328
theorem ElR.gr {w w' : World} {v : Value} {l : El} (hg : Gr w w') (h : ElR w v l) : ElR w' v l := ⟨h.evs.gr hg, h.t, h.r, h.n⟩

theorem day_bounds {b : Int} {d : Bool} (h : C19.okB b d = true) : 0 < C19.dayN b d ∧ C19.dayN b d ≤ 5184000 := by
  have := C19.okB_bounds h
  unfold C19.dayN C19.drp
  split <;> omega
theorem vEvs_step {day least : Int} {es : List Ev} {i : Nat} (h : i < es.length) : vEvs day least (es.drop i) = (vEv es[i] least day && vEvs day es[i].t (es.drop (i + 1))) := by
  rw [List.drop_eq_getElem_cons h]
  rfl
/-- the cells of one event, read -/
theorem ev_cells {W w : World} {b o : Nat} {es : List Ev} {i : Nat} (hi : i < es.length) (hb : b < W.heap.size) (hg : Gr W w) (hc : ∀ (i : Nat) (hi : i < es.length) (j : Nat) (u : Value), es[i].cells[j]? = some u → W.cell? ⟨b, o + i * 8 + j, none⟩ = some u) :
    w.cell? ⟨b, o + i * 8, none⟩ = some (.int .i64 es[i].k) ∧ w.cell? ⟨b, o + i * 8 + 1, none⟩ = some (.int .i64 es[i].p) ∧ w.cell? ⟨b, o + i * 8 + 2, none⟩ = some (.int .i64 es[i].fr) ∧ w.cell? ⟨b, o + i * 8 + 3, none⟩ = some (.string es[i].reel) ∧
    w.cell? ⟨b, o + i * 8 + 4, none⟩ = some (.int .i64 es[i].i) ∧ w.cell? ⟨b, o + i * 8 + 5, none⟩ = some (.int .i64 es[i].o) ∧ w.cell? ⟨b, o + i * 8 + 6, none⟩ = some (.int .i64 es[i].f) ∧ w.cell? ⟨b, o + i * 8 + 7, none⟩ = some (.int .i64 es[i].t) := by
  have h := fun j u hu => (hg.cells.1 b (o + i * 8 + j) hb).trans (hc i hi j u hu)
  exact ⟨h 0 _ rfl, h 1 _ rfl, h 2 _ rfl, h 3 _ rfl, h 4 _ rfl, h 5 _ rfl, h 6 _ rfl, h 7 _ rfl⟩
set_option maxRecDepth 20000 in
set_option maxHeartbeats 4000000 in
theorem revalid_any (l : El) (v : Value) (w : World) (h : ElR w v l) : Calls Tryz.prog 14 #[l.val v] w fun e w' => e = .returned (.bool (vEl l)) ∧ Gr w w' := by
  obtain ⟨title, base, drop, evs⟩ := l
  unfold El.val
  simp only
  have hnm := h.r
  have hnt := h.t
  have hn := h.n
  simp only at hnm hnt hn
  obtain ⟨a, cap, hv, ha⟩ := h.evs.shape
  subst hv
  simp only at ha ⊢
  clear h
  have hnew := Cel.new w #[.string title, .int .i64 base, .bool drop, .slice a evs.length cap] 24
  unfold vEl
  simp only
  cases ho : C19.okB base drop with
  | false =>
    have HD : Hid (∀ w', Calls Tryz.prog 38 #[.int .i64 base, .bool drop] w' fun e w'' => e = .returned (.tuple #[.int .i64 0, .int .i64 1]) ∧ w' = w'') := fun w' => C19.rday_no base drop w' ho
    clear ha ho
    go_enter Tryz.func14, Tryz.ntmps14
    go_wp2_with (go_at_call 38; (with_reducible refine (HD.out _).mono ?_); rintro e w1 ⟨rfl, rfl⟩)
    go_ret
    exact ⟨rfl, (by repeat (first | with_reducible exact Gr.refl _ | with_reducible assumption | refine Gr.setCell ?_ (by first | omega | (simp; done) | (simp; omega)) _ | refine Gr.alloc ?_ _ | refine Gr.drew ?_ | refine Gr.drewN ?_ _ | refine Gr.trans ?_ (by with_reducible assumption)))⟩
  | true =>
    obtain ⟨d0, d1⟩ := day_bounds ho
    have HD : Hid (∀ w', Calls Tryz.prog 38 #[.int .i64 base, .bool drop] w' fun e w'' => e = .returned (.tuple #[.int .i64 (C19.dayN base drop), .int .i64 0]) ∧ w' = w'') := fun w' => C19.rday_yes base drop w' ho
    have HL : Hid (∀ w', Calls Tryz.prog 39 #[.string title] w' fun e w'' => e = .returned (.bool (vLine title)) ∧ Gr w' w'') := fun w' => rvalidLine_any title w' hnt
    have HE : Hid (∀ (e : Ev) (least : Int) w', 0 ≤ least → e ∈ evs → Calls Tryz.prog 40 #[e.val, .int .i64 least, .int .i64 (C19.dayN base drop)] w' fun en w'' => en = .returned (.bool (vEv e least (C19.dayN base drop))) ∧ Gr w' w'') := fun e least w' h0 he => revent_any e least _ w' h0 d1 (hnm e he)
    generalize C19.dayN base drop = day at *
    rw [Bool.true_and]
    clear ho
    cases hl : vLine title with
    | false =>
      rw [hl] at HL
      clear ha HE hl
      go_enter Tryz.func14, Tryz.ntmps14
      go_wp2_with (first
        | (go_at_call 38; (with_reducible refine (HD.out _).mono ?_); rintro e w1 ⟨rfl, rfl⟩)
        | (go_at_call 39; (with_reducible refine (HL.out _).mono ?_); rintro e w1 ⟨rfl, hg1⟩))
      go_ret
      exact ⟨rfl, (by repeat (first | with_reducible exact Gr.refl _ | with_reducible assumption | refine Gr.setCell ?_ (by first | omega | (simp; done) | (simp; omega)) _ | refine Gr.alloc ?_ _ | refine Gr.drew ?_ | refine Gr.drewN ?_ _ | refine Gr.trans ?_ (by with_reducible assumption)))⟩
    | true =>
      rw [hl, ] at HL
      rw [Bool.true_and]
      clear hl
      by_cases hn9 : 999 < evs.length
      · rw [decide_eq_false (by omega : ¬ evs.length ≤ 999), Bool.false_and]
        have q9 : decide (999 < evs.length) = true := decide_eq_true hn9
        clear ha HE
        go_enter Tryz.func14, Tryz.ntmps14
        go_wp2_with (first
          | (go_at_call 38; (with_reducible refine (HD.out _).mono ?_); rintro e w1 ⟨rfl, rfl⟩)
          | (go_at_call 39; (with_reducible refine (HL.out _).mono ?_); rintro e w1 ⟨rfl, hg1⟩; have k1 := (hnew.gr hg1).lt; have k2 := ((hnew.gr hg1).2 3 _ rfl).1))
        go_ret
        exact ⟨rfl, (by repeat (first | with_reducible exact Gr.refl _ | with_reducible assumption | refine Gr.setCell ?_ (by first | omega | (simp; done) | (simp; omega)) _ | refine Gr.alloc ?_ _ | refine Gr.drew ?_ | refine Gr.drewN ?_ _ | refine Gr.trans ?_ (by with_reducible assumption)))⟩
      · rw [decide_eq_true (by omega : evs.length ≤ 999), Bool.true_and]
        have q9 : decide (999 < evs.length) = false := decide_eq_false hn9
        obtain ⟨R, hR⟩ : ∃ R, vEvs day 0 evs = R := ⟨_, rfl⟩
        rw [hR]
        have HS : Hid (vEvs day 0 (evs.drop 0) = R) := hR
        have ha := Lib.hid ha
        clear hR
        go_enter Tryz.func14, Tryz.ntmps14
        go_wp2_with (first
          | (go_at_call 38; (with_reducible refine (HD.out _).mono ?_); rintro e w1 ⟨rfl, rfl⟩)
          | (go_at_call 39; (with_reducible refine (HL.out _).mono ?_); rintro e w1 ⟨rfl, hg1⟩; have hb1 := hnew.gr hg1; have k1 := hb1.lt; have k2 := (hb1.2 3 _ rfl).1))
        have hw1 : Gr w w1 := ((Gr.refl w).alloc _).trans hg1
        clear k1 k2 hg1 hnew
        go_loopw [5, 6] (fun af i wr => ∃ (j : Nat) (x : Int), j ≤ evs.length ∧ i = .int .i64 j ∧ af = .int .i64 x ∧ 0 ≤ x ∧ Hid (vEvs day x (evs.drop j) = R) ∧ Gr w1 wr) (fun _ i _ => evs.length - (RowKit.intOf i).toNat)
        case atStart => exact ⟨0, 0, Nat.zero_le _, rfl, rfl, Int.le_refl _, HS, Gr.refl _⟩
        case round =>
          obtain ⟨j, x, h3, rfl, rfl, hx, hno, hg⟩ := hrel
          clear HS
          have hbr := hb1.gr hg
          have k1 := hbr.lt
          have k2 := (hbr.2 3 _ rfl).1
          by_cases c1 : j < evs.length
          · have q6 : decide (j < evs.length) = true := decide_eq_true c1
            rcases ha.out with ha2 | ⟨b, o, rfl, hb, hc⟩
            · omega
            have hx1 : b < wr.heap.size := Nat.lt_of_lt_of_le hb (hw1.trans hg).size
            have hd := hno.out
            rw [vEvs_step c1] at hd
            obtain ⟨e0, e1, e2, e3, e4, e5, e6, e7⟩ := ev_cells c1 hb (hw1.trans hg) hc
            have hmem := List.getElem_mem c1
            have HEj := fun w' => HE.out evs[j] x w' hx hmem
            have hold : ∀ w', Gr wr w' → w'.cell? ⟨b, o + j * 8 + 7, none⟩ = some (.int .i64 evs[j].t) := fun w' hg' => (hg'.cells.1 b _ hx1).trans e7
            generalize evs[j] = c at hd e0 e1 e2 e3 e4 e5 e6 e7 HEj hold
            clear hc hmem
            unfold Ev.val at HEj
            have HEj := Lib.hid HEj
            cases hv : vEv c x day with
            | false =>
              rw [hv] at HEj hd
              have hV : Hid (R = false) := hd.symm
              clear hd hno hold hv
              go_wp2_with (go_at_call 40; (with_reducible refine (HEj.out _).mono ?_); rintro e w2 ⟨rfl, hg2⟩)
              go_ret
              exact ⟨by rw [hV.out]; rfl, hw1.trans (hg.trans hg2)⟩
            | true =>
              rw [hv] at HEj hd
              have hV : Hid (vEvs day c.t (evs.drop (j + 1)) = R) := hd
              have hve := vEv_iff.1 hv
              have ht : 0 ≤ c.t := by have := hve.l; have := hve.ft; omega
              clear hd hno hv hve
              go_wp2_with (go_at_call 40; (with_reducible refine (HEj.out _).mono ?_); rintro e w2 ⟨rfl, hg2⟩; have y1 := (hbr.gr hg2).lt; have y2 := ((hbr.gr hg2).2 3 _ rfl).1; have y3 := hold w2 hg2; have y4 : b < w2.heap.size := Nat.lt_of_lt_of_le hx1 hg2.size)
              go_roundw
              case rel => exact ⟨j + 1, c.t, by omega, by go_num, rfl, ht, hV, hg.trans hg2⟩
              case measure => simp [RowKit.intOf]; omega
          · have q6 : decide (j < evs.length) = false := decide_eq_false c1
            have hV : Hid (R = true) := by
              have hd := hno.out
              rw [List.drop_of_length_le (by omega)] at hd
              exact hd.symm
            clear hno
            go_wp2
            go_ret
            exact ⟨by rw [hV.out]; rfl, hw1.trans hg⟩
end Go.Proofs.YtgbiodnfpbhjiaaGreatDoor
