/-
  Contract of the reference: which events are valid behind a frame.
  Conditions: the day has at most 5184000 frames; the frame is not negative.
-/
import Derived.Test.YtgbiodnfpbhjiaaGreatDoorWalkEc
namespace Go.Proofs.YtgbiodnfpbhjiaaGreatDoor
open Go.RowKit Go.Lib
set_option linter.unusedSimpArgs false
set_option linter.unusedVariables false

/-- what an event's validity says, the name's apart -/
def evP (k p fr i o f t least day : Int) (Z NB : Prop) : Prop :=
  ((k = 0 ∧ fr = 0 ∧ p = 0) ∨ (k = 1 ∧ 1 ≤ fr ∧ fr ≤ 999 ∧ p = 0) ∨ (k = 2 ∧ 1 ≤ fr ∧ fr ≤ 999 ∧ 0 ≤ p ∧ p ≤ 3)) ∧ least ≤ f ∧ f < t ∧ t < day ∧ fr ≤ t - f ∧ ((Z ∧ i = 0 ∧ o = 0) ∨ (¬ Z ∧ NB ∧ 0 ≤ i ∧ i < day ∧ o = i + (t - f) ∧ o < day))
theorem vEv_evP {k p fr i o f t least day : Int} {reel : ByteArray} : vEv ⟨k, p, fr, reel, i, o, f, t⟩ least day = true ↔ evP k p fr i o f t least day (reel.size = 0) (nmB reel = true) := by
  rw [vEv_iff]
  exact ⟨fun h => ⟨h.kd, h.l, h.ft, h.d, h.fr, h.rl⟩, fun h => ⟨h.1, h.2.1, h.2.2.1, h.2.2.2.1, h.2.2.2.2.1, h.2.2.2.2.2⟩⟩
set_option maxHeartbeats 8000000 in
theorem revent_k0 (k p fr i o f t least day : Int) (nb : Int) (reel : ByteArray) (R : Bool) (w : World) (hl : 0 ≤ least) (hd : day ≤ 5184000) (hk : (0 : Int) = 0)
    (hR : Hid (R = true ↔ evP 0 p fr i o f t least day (reel.size = 0) (nb = 1)))
    (HN : ∀ w, Calls Tryz.prog 84 #[.string reel] w fun en w' => en = .returned (.bool (decide (nb = 1))) ∧ Gr w w') :
    Calls Tryz.prog 40 #[.agg #[.int .i64 0, .int .i64 p, .int .i64 fr, .string reel, .int .i64 i, .int .i64 o, .int .i64 f, .int .i64 t], .int .i64 least, .int .i64 day] w fun en w' => en = .returned (.bool R) ∧ Gr w w' := by
  have HN := Lib.hid HN
  have fls : Hid (¬ evP 0 p fr i o f t least day (reel.size = 0) (nb = 1) → Ending.returned (.bool false) = Ending.returned (.bool R)) := Lib.hid (fun h => by rw [Bool.eq_false_iff.2 (fun e => h (hR.out.1 e))])
  have val : Hid (∀ b : Bool, (b = true ↔ evP 0 p fr i o f t least day (reel.size = 0) (nb = 1)) → Ending.returned (.bool b) = Ending.returned (.bool R)) := Lib.hid (fun b h => by rw [Bool.eq_iff_iff.2 (h.trans hR.out.symm)])
  go_enter Tryz.func40, Tryz.ntmps40
  go_wp2_with (go_at_call 84; (with_reducible refine (HN.out _).mono ?_); rintro e w2 ⟨rfl, hg2⟩; have k2 := Cel.gr hg2 (Cel.new _ _ _); have x2 := k2.lt; have y2 := (k2.2 2 _ rfl).1; have y3 := (k2.2 3 _ rfl).1; have y4 := (k2.2 4 _ rfl).1; have y5 := (k2.2 5 _ rfl).1; have y6 := (k2.2 6 _ rfl).1; have y7 := (k2.2 7 _ rfl).1)
  all_goals first
    | (go_ret; refine ⟨?_, (by repeat (first | with_reducible exact Gr.refl _ | with_reducible assumption | refine Gr.setCell ?_ (by first | omega | (simp; done) | (simp; omega)) _ | refine Gr.alloc ?_ _ | refine Gr.drew ?_ | refine Gr.drewN ?_ _ | refine Gr.trans ?_ (by with_reducible assumption)))⟩; refine fls.out ?_; clear hR HN fls val; unfold evP; (try simp only [size_zero_iff, decide_eq_true_eq, decide_eq_false_iff_not, bne_iff_ne, ne_eq, bne_eq_false_iff_eq, beq_iff_eq, beq_eq_false_iff_ne, Bool.and_eq_true, Bool.or_eq_true, Bool.false_eq_true, not_false_eq_true, Bool.not_eq_true, true_and, and_true, false_and, and_false, false_or, or_false, true_or, or_true] at *); omega)
    | (go_ret; refine ⟨?_, (by repeat (first | with_reducible exact Gr.refl _ | with_reducible assumption | refine Gr.setCell ?_ (by first | omega | (simp; done) | (simp; omega)) _ | refine Gr.alloc ?_ _ | refine Gr.drew ?_ | refine Gr.drewN ?_ _ | refine Gr.trans ?_ (by with_reducible assumption)))⟩; refine val.out _ ?_; clear hR HN fls val; unfold evP; (try simp only [size_zero_iff, decide_eq_true_eq, decide_eq_false_iff_not, bne_iff_ne, ne_eq, bne_eq_false_iff_eq, beq_iff_eq, beq_eq_false_iff_ne, Bool.and_eq_true, Bool.or_eq_true, Bool.false_eq_true, not_false_eq_true, Bool.not_eq_true, true_and, and_true, false_and, and_false, false_or, or_false, true_or, or_true] at *); constructor <;> intro hx <;> omega)
set_option maxHeartbeats 8000000 in
theorem revent_k1 (k p fr i o f t least day : Int) (nb : Int) (reel : ByteArray) (R : Bool) (w : World) (hl : 0 ≤ least) (hd : day ≤ 5184000) (hk : (0 : Int) = 0)
    (hR : Hid (R = true ↔ evP 1 p fr i o f t least day (reel.size = 0) (nb = 1)))
    (HN : ∀ w, Calls Tryz.prog 84 #[.string reel] w fun en w' => en = .returned (.bool (decide (nb = 1))) ∧ Gr w w') :
    Calls Tryz.prog 40 #[.agg #[.int .i64 1, .int .i64 p, .int .i64 fr, .string reel, .int .i64 i, .int .i64 o, .int .i64 f, .int .i64 t], .int .i64 least, .int .i64 day] w fun en w' => en = .returned (.bool R) ∧ Gr w w' := by
  have HN := Lib.hid HN
  have fls : Hid (¬ evP 1 p fr i o f t least day (reel.size = 0) (nb = 1) → Ending.returned (.bool false) = Ending.returned (.bool R)) := Lib.hid (fun h => by rw [Bool.eq_false_iff.2 (fun e => h (hR.out.1 e))])
  have val : Hid (∀ b : Bool, (b = true ↔ evP 1 p fr i o f t least day (reel.size = 0) (nb = 1)) → Ending.returned (.bool b) = Ending.returned (.bool R)) := Lib.hid (fun b h => by rw [Bool.eq_iff_iff.2 (h.trans hR.out.symm)])
  go_enter Tryz.func40, Tryz.ntmps40
  go_wp2_with (go_at_call 84; (with_reducible refine (HN.out _).mono ?_); rintro e w2 ⟨rfl, hg2⟩; have k2 := Cel.gr hg2 (Cel.new _ _ _); have x2 := k2.lt; have y2 := (k2.2 2 _ rfl).1; have y3 := (k2.2 3 _ rfl).1; have y4 := (k2.2 4 _ rfl).1; have y5 := (k2.2 5 _ rfl).1; have y6 := (k2.2 6 _ rfl).1; have y7 := (k2.2 7 _ rfl).1)
  all_goals first
    | (go_ret; refine ⟨?_, (by repeat (first | with_reducible exact Gr.refl _ | with_reducible assumption | refine Gr.setCell ?_ (by first | omega | (simp; done) | (simp; omega)) _ | refine Gr.alloc ?_ _ | refine Gr.drew ?_ | refine Gr.drewN ?_ _ | refine Gr.trans ?_ (by with_reducible assumption)))⟩; refine fls.out ?_; clear hR HN fls val; unfold evP; (try simp only [size_zero_iff, decide_eq_true_eq, decide_eq_false_iff_not, bne_iff_ne, ne_eq, bne_eq_false_iff_eq, beq_iff_eq, beq_eq_false_iff_ne, Bool.and_eq_true, Bool.or_eq_true, Bool.false_eq_true, not_false_eq_true, Bool.not_eq_true, true_and, and_true, false_and, and_false, false_or, or_false, true_or, or_true] at *); omega)
    | (go_ret; refine ⟨?_, (by repeat (first | with_reducible exact Gr.refl _ | with_reducible assumption | refine Gr.setCell ?_ (by first | omega | (simp; done) | (simp; omega)) _ | refine Gr.alloc ?_ _ | refine Gr.drew ?_ | refine Gr.drewN ?_ _ | refine Gr.trans ?_ (by with_reducible assumption)))⟩; refine val.out _ ?_; clear hR HN fls val; unfold evP; (try simp only [size_zero_iff, decide_eq_true_eq, decide_eq_false_iff_not, bne_iff_ne, ne_eq, bne_eq_false_iff_eq, beq_iff_eq, beq_eq_false_iff_ne, Bool.and_eq_true, Bool.or_eq_true, Bool.false_eq_true, not_false_eq_true, Bool.not_eq_true, true_and, and_true, false_and, and_false, false_or, or_false, true_or, or_true] at *); constructor <;> intro hx <;> omega)
set_option maxHeartbeats 8000000 in
theorem revent_k2 (k p fr i o f t least day : Int) (nb : Int) (reel : ByteArray) (R : Bool) (w : World) (hl : 0 ≤ least) (hd : day ≤ 5184000) (hk : (0 : Int) = 0)
    (hR : Hid (R = true ↔ evP 2 p fr i o f t least day (reel.size = 0) (nb = 1)))
    (HN : ∀ w, Calls Tryz.prog 84 #[.string reel] w fun en w' => en = .returned (.bool (decide (nb = 1))) ∧ Gr w w') :
    Calls Tryz.prog 40 #[.agg #[.int .i64 2, .int .i64 p, .int .i64 fr, .string reel, .int .i64 i, .int .i64 o, .int .i64 f, .int .i64 t], .int .i64 least, .int .i64 day] w fun en w' => en = .returned (.bool R) ∧ Gr w w' := by
  have HN := Lib.hid HN
  have fls : Hid (¬ evP 2 p fr i o f t least day (reel.size = 0) (nb = 1) → Ending.returned (.bool false) = Ending.returned (.bool R)) := Lib.hid (fun h => by rw [Bool.eq_false_iff.2 (fun e => h (hR.out.1 e))])
  have val : Hid (∀ b : Bool, (b = true ↔ evP 2 p fr i o f t least day (reel.size = 0) (nb = 1)) → Ending.returned (.bool b) = Ending.returned (.bool R)) := Lib.hid (fun b h => by rw [Bool.eq_iff_iff.2 (h.trans hR.out.symm)])
  go_enter Tryz.func40, Tryz.ntmps40
  go_wp2_with (go_at_call 84; (with_reducible refine (HN.out _).mono ?_); rintro e w2 ⟨rfl, hg2⟩; have k2 := Cel.gr hg2 (Cel.new _ _ _); have x2 := k2.lt; have y2 := (k2.2 2 _ rfl).1; have y3 := (k2.2 3 _ rfl).1; have y4 := (k2.2 4 _ rfl).1; have y5 := (k2.2 5 _ rfl).1; have y6 := (k2.2 6 _ rfl).1; have y7 := (k2.2 7 _ rfl).1)
  all_goals first
    | (go_ret; refine ⟨?_, (by repeat (first | with_reducible exact Gr.refl _ | with_reducible assumption | refine Gr.setCell ?_ (by first | omega | (simp; done) | (simp; omega)) _ | refine Gr.alloc ?_ _ | refine Gr.drew ?_ | refine Gr.drewN ?_ _ | refine Gr.trans ?_ (by with_reducible assumption)))⟩; refine fls.out ?_; clear hR HN fls val; unfold evP; (try simp only [size_zero_iff, decide_eq_true_eq, decide_eq_false_iff_not, bne_iff_ne, ne_eq, bne_eq_false_iff_eq, beq_iff_eq, beq_eq_false_iff_ne, Bool.and_eq_true, Bool.or_eq_true, Bool.false_eq_true, not_false_eq_true, Bool.not_eq_true, true_and, and_true, false_and, and_false, false_or, or_false, true_or, or_true] at *); omega)
    | (go_ret; refine ⟨?_, (by repeat (first | with_reducible exact Gr.refl _ | with_reducible assumption | refine Gr.setCell ?_ (by first | omega | (simp; done) | (simp; omega)) _ | refine Gr.alloc ?_ _ | refine Gr.drew ?_ | refine Gr.drewN ?_ _ | refine Gr.trans ?_ (by with_reducible assumption)))⟩; refine val.out _ ?_; clear hR HN fls val; unfold evP; (try simp only [size_zero_iff, decide_eq_true_eq, decide_eq_false_iff_not, bne_iff_ne, ne_eq, bne_eq_false_iff_eq, beq_iff_eq, beq_eq_false_iff_ne, Bool.and_eq_true, Bool.or_eq_true, Bool.false_eq_true, not_false_eq_true, Bool.not_eq_true, true_and, and_true, false_and, and_false, false_or, or_false, true_or, or_true] at *); constructor <;> intro hx <;> omega)
set_option maxHeartbeats 8000000 in
theorem revent_kx (k p fr i o f t least day : Int) (nb : Int) (reel : ByteArray) (R : Bool) (w : World) (hl : 0 ≤ least) (hd : day ≤ 5184000) (hk : (k < 0 ∨ 2 < k))
    (hR : Hid (R = true ↔ evP k p fr i o f t least day (reel.size = 0) (nb = 1)))
    (HN : ∀ w, Calls Tryz.prog 84 #[.string reel] w fun en w' => en = .returned (.bool (decide (nb = 1))) ∧ Gr w w') :
    Calls Tryz.prog 40 #[.agg #[.int .i64 k, .int .i64 p, .int .i64 fr, .string reel, .int .i64 i, .int .i64 o, .int .i64 f, .int .i64 t], .int .i64 least, .int .i64 day] w fun en w' => en = .returned (.bool R) ∧ Gr w w' := by
  have HN := Lib.hid HN
  have fls : Hid (¬ evP k p fr i o f t least day (reel.size = 0) (nb = 1) → Ending.returned (.bool false) = Ending.returned (.bool R)) := Lib.hid (fun h => by rw [Bool.eq_false_iff.2 (fun e => h (hR.out.1 e))])
  have val : Hid (∀ b : Bool, (b = true ↔ evP k p fr i o f t least day (reel.size = 0) (nb = 1)) → Ending.returned (.bool b) = Ending.returned (.bool R)) := Lib.hid (fun b h => by rw [Bool.eq_iff_iff.2 (h.trans hR.out.symm)])
  go_enter Tryz.func40, Tryz.ntmps40
  go_wp2_with (go_at_call 84; (with_reducible refine (HN.out _).mono ?_); rintro e w2 ⟨rfl, hg2⟩; have k2 := Cel.gr hg2 (Cel.new _ _ _); have x2 := k2.lt; have y2 := (k2.2 2 _ rfl).1; have y3 := (k2.2 3 _ rfl).1; have y4 := (k2.2 4 _ rfl).1; have y5 := (k2.2 5 _ rfl).1; have y6 := (k2.2 6 _ rfl).1; have y7 := (k2.2 7 _ rfl).1)
  all_goals first
    | (go_ret; refine ⟨?_, (by repeat (first | with_reducible exact Gr.refl _ | with_reducible assumption | refine Gr.setCell ?_ (by first | omega | (simp; done) | (simp; omega)) _ | refine Gr.alloc ?_ _ | refine Gr.drew ?_ | refine Gr.drewN ?_ _ | refine Gr.trans ?_ (by with_reducible assumption)))⟩; refine fls.out ?_; clear hR HN fls val; unfold evP; (try simp only [size_zero_iff, decide_eq_true_eq, decide_eq_false_iff_not, bne_iff_ne, ne_eq, bne_eq_false_iff_eq, beq_iff_eq, beq_eq_false_iff_ne, Bool.and_eq_true, Bool.or_eq_true, Bool.false_eq_true, not_false_eq_true, Bool.not_eq_true, true_and, and_true, false_and, and_false, false_or, or_false, true_or, or_true] at *); omega)
    | (go_ret; refine ⟨?_, (by repeat (first | with_reducible exact Gr.refl _ | with_reducible assumption | refine Gr.setCell ?_ (by first | omega | (simp; done) | (simp; omega)) _ | refine Gr.alloc ?_ _ | refine Gr.drew ?_ | refine Gr.drewN ?_ _ | refine Gr.trans ?_ (by with_reducible assumption)))⟩; refine val.out _ ?_; clear hR HN fls val; unfold evP; (try simp only [size_zero_iff, decide_eq_true_eq, decide_eq_false_iff_not, bne_iff_ne, ne_eq, bne_eq_false_iff_eq, beq_iff_eq, beq_eq_false_iff_ne, Bool.and_eq_true, Bool.or_eq_true, Bool.false_eq_true, not_false_eq_true, Bool.not_eq_true, true_and, and_true, false_and, and_false, false_or, or_false, true_or, or_true] at *); constructor <;> intro hx <;> omega)
theorem revent_any (e : Ev) (least day : Int) (w : World) (hl : 0 ≤ least) (hd : day ≤ 5184000) (hs : e.reel.size ≤ 140737488355328) :
    Calls Tryz.prog 40 #[e.val, .int .i64 least, .int .i64 day] w fun en w' => en = .returned (.bool (vEv e least day)) ∧ Gr w w' := by
  obtain ⟨k, p, fr, reel, i, o, f, t⟩ := e
  have HN : ∀ w, Calls Tryz.prog 84 #[.string reel] w fun en w' => en = .returned (.bool (decide ((if nmB reel = true then (1 : Int) else 0) = 1))) ∧ Gr w w' := fun w => by
    have := rvalidName_any reel w hs
    cases h : nmB reel <;> rw [h] at this <;> simpa using this
  have hR : Hid (vEv ⟨k, p, fr, reel, i, o, f, t⟩ least day = true ↔ evP k p fr i o f t least day (reel.size = 0) ((if nmB reel = true then (1 : Int) else 0) = 1)) := by
    refine Lib.hid ?_
    rw [vEv_evP]
    have e : ((if nmB reel = true then (1 : Int) else 0) = 1) = (nmB reel = true) := by cases nmB reel <;> simp
    rw [e]
  by_cases h0 : k = 0
  · subst h0; exact revent_k0 0 p fr i o f t least day _ reel _ w hl hd rfl hR HN
  by_cases h1 : k = 1
  · subst h1; exact revent_k1 1 p fr i o f t least day _ reel _ w hl hd rfl hR HN
  by_cases h2 : k = 2
  · subst h2; exact revent_k2 2 p fr i o f t least day _ reel _ w hl hd rfl hR HN
  exact revent_kx k p fr i o f t least day _ reel _ w hl hd (by omega) hR HN
end Go.Proofs.YtgbiodnfpbhjiaaGreatDoor
