/-
  Contract of Format of package edl.
  Conditions: the list lies in memory; the table of powers is laid.
-/
import Derived.Test.YtgbiodnfpbhjiaaGreatDoorWalkFe
import Derived.Test.YtgbiodnfpbhjiaaGreatDoorWalkEg
import Derived.Deep.DeepCutAuto
namespace Go.Proofs.YtgbiodnfpbhjiaaGreatDoor
open Go.RowKit Go.Lib
set_option linter.unusedSimpArgs false
set_option linter.unusedVariables false

theorem wread_any (B : Nat) (b : Int) (d : Bool) (l : List UInt8) (w : World) (h : Wt w B b d l) (hl : l ≠ []) :
    Calls Tryz.prog 61 #[.pointer (some ⟨B, 0, none⟩)] w fun e w' => e = .returned (.string ⟨l.toArray⟩) ∧ By (Wb w B) w w' := by
  obtain ⟨p, v, h⟩ := h
  have hk := ownF_kind h.own
  have hge := ownF_ge h.own
  refine (str_any B 0 _ _ (B + 1) p v l w h hl).mono ?_
  rintro e w' ⟨rfl, _, hy⟩
  exact ⟨rfl, hy.mono (fun k _ hk2 => .inr ⟨by have := hge k hk2; omega, hk k hk2⟩)⟩
/-- what Format has in memory -/
structure Fs (w : World) (B : Nat) (b : Int) (d : Bool) (lv : List Value) (wx : World) (acc : List UInt8) : Prop where
  gr : Gr w wx
  wt : Wt wx B b d acc
  c0 : Cel wx w.heap.size lv
  c1 : Cel wx (w.heap.size + 1) [.string ⟨#[]⟩]
  c2 : Cel wx (w.heap.size + 2) [.int .i64 0]
theorem Fs.step {w : World} {B : Nat} {b : Int} {d : Bool} {lv : List Value} {wx wy : World} {acc acc' : List UInt8} (h : Fs w B b d lv wx acc) (hB : w.heap.size + 2 < B) (hw : Wt wy B b d acc') (hy : By (Wb wx B) wx wy) : Fs w B b d lv wy acc' :=
  ⟨Wb.gr hy h.gr (by omega), hw, Wb.cel hy (by omega) h.c0, Wb.cel hy (by omega) h.c1, Wb.cel hy (by omega) h.c2⟩
theorem Fs.by {w : World} {B : Nat} {b : Int} {d : Bool} {lv : List Value} {wx wy : World} {acc : List UInt8} (h : Fs w B b d lv wx acc) (hg : Gr wx wy) : Fs w B b d lv wy acc :=
  ⟨h.gr.trans hg, h.wt.gr hg, h.c0.gr hg, h.c1.gr hg, h.c2.gr hg⟩
theorem evL_size {b : Int} {d : Bool} {num : Int} {e : Ev} {n day : Int} (h : C19.okB b d = true) (hv : VE e n day) : (evL b d num e).length ≤ 100 := by
  have h1 := kd_size hv
  have h2 := reel_size hv
  unfold evL
  simp only [List.length_append, (labB_no h).2, List.length_cons, List.length_nil, t3_len]
  omega
/-- the text of a list's first events -/
def accB (l : El) (k : Nat) : List UInt8 := flatL (ttlB l.title :: fcmB l.drop :: evLs l.base l.drop 1 (l.evs.take k))
theorem accB_succ {l : El} {k : Nat} (hk : k < l.evs.length) : accB l (k + 1) = accB l k ++ (evL l.base l.drop (k + 1) l.evs[k] ++ [10]) := by
  unfold accB
  rw [List.take_succ_eq_append_getElem hk, evLs_append, List.length_take, Nat.min_eq_left (by omega)]
  simp only [flatL_cons, flatL_append, evLs, List.append_assoc]
  rw [show (1 : Int) + (k : Int) = (k : Int) + 1 by omega]
  simp [flatL]
theorem accB_all (l : El) : accB l l.evs.length = fmtB l := by unfold accB fmtB linesB; rw [List.take_length]
theorem accB_ne (l : El) (k : Nat) : accB l k ≠ [] := by unfold accB ttlB; simp [flatL]

theorem vLine_sz {s : ByteArray} (h : vLine s = true) : 1 ≤ s.size ∧ s.size ≤ 64 := by
  unfold vLine at h
  simp only [Bool.and_eq_true, decide_eq_true_eq] at h
  exact h.1
set_option maxRecDepth 20000 in
set_option maxHeartbeats 4000000 in
theorem eformat_no (l : El) (v : Value) (w : World) (h : ElR w v l) (hv : vEl l = false) :
    Calls Tryz.prog 23 #[l.val v] w fun e w' => e = .returned (.tuple #[.string ⟨#[]⟩, .int .i64 1]) ∧ Gr w w' := by
  have hmf := hmf_any Tryz.prog
  have HV : Hid (∀ w', Gr w w' → Calls Tryz.prog 13 #[l.val v] w' fun e w'' => e = .returned (.bool false) ∧ Gr w' w'') := fun w' hg => by rw [← hv]; exact evalid_any l v w' (h.gr hg)
  obtain ⟨title, base, drop, evs⟩ := l
  clear h hv
  unfold El.val at *
  simp only at *
  have fin : ∀ w1 : World, Gr (((w.alloc (.cells #[.string title, .int .i64 base, .bool drop, v] 24)).alloc (.cells #[.string ⟨#[]⟩] 9)).alloc (.cells #[.int .i64 0] 36)) w1 → Cel w1 (w.heap.size + 1) [.string ⟨#[]⟩] ∧ Cel w1 (w.heap.size + 2) [.int .i64 0] := by
    intro w1 hg1
    have k1 := (Cel.new (w.alloc (.cells #[.string title, .int .i64 base, .bool drop, v] 24)) #[.string ⟨#[]⟩] 9).alloc (.cells #[.int .i64 0] 36) |>.gr hg1
    have k2 := (Cel.new ((w.alloc (.cells #[.string title, .int .i64 base, .bool drop, v] 24)).alloc (.cells #[.string ⟨#[]⟩] 9)) #[.int .i64 0] 36).gr hg1
    simp at k1 k2
    exact ⟨k1, k2⟩
  have fin := Lib.hid fin
  go_enter_defers Tryz.func23, Tryz.ntmps23
  go_wp2_with (go_at_call 13; (with_reducible refine (HV.out _ ?_).mono ?_); (· exact (by repeat (first | with_reducible exact Gr.refl _ | with_reducible assumption | refine Gr.setCell ?_ (by first | omega | (simp; done) | (simp; omega)) _ | refine Gr.alloc ?_ _ | refine Gr.drew ?_ | refine Gr.drewN ?_ _ | refine Gr.trans ?_ (by with_reducible assumption)))); rintro e w1 ⟨rfl, hg1⟩; obtain ⟨k1, k2⟩ := fin.out _ hg1; obtain ⟨a2, b2⟩ := k1.one; obtain ⟨a3, b3⟩ := k2.one)
  have hz := hg1.size
  simp at hz
  refine leaves_cons (f := 58) (args := #[.pointer (some ⟨w.heap.size + 1, 0, none⟩), .pointer (some ⟨w.heap.size + 1 + 1, 0, none⟩)]) (by simp) (by simp [go_sem]) ?_
  refine (formatD_idle _ _ _).mono ?_
  rintro e u' w'' ⟨rfl, rfl, rfl⟩
  first
    | (simp [Leaves, settle, results, Tryz.results23, go_sem, a2, a3]; done)
    | (simp [Leaves, settle, results, Tryz.results23, go_sem, a2, a3]; exact (by repeat (first | with_reducible exact Gr.refl _ | with_reducible assumption | refine Gr.setCell ?_ (by first | omega | (simp; done) | (simp; omega)) _ | refine Gr.alloc ?_ _ | refine Gr.drew ?_ | refine Gr.drewN ?_ _ | refine Gr.trans ?_ (by with_reducible assumption))))

set_option maxRecDepth 20000 in
set_option maxHeartbeats 8000000 in
theorem eformat_yes (l : El) (v : Value) (w : World) (h : ElR w v l) (hv : vEl l = true) (hT : Pow w) :
    Calls Tryz.prog 23 #[l.val v] w fun e w' => e = .returned (.tuple #[.string ⟨(fmtB l).toArray⟩, .int .i64 0]) ∧ Gr w w' := by
  have hmf := hmf_any Tryz.prog
  have HV : Hid (∀ w', Gr w w' → Calls Tryz.prog 13 #[l.val v] w' fun e w'' => e = .returned (.bool true) ∧ Gr w' w'') := fun w' hg => by rw [← hv]; exact evalid_any l v w' (h.gr hg)
  obtain ⟨o1, o2, o3, o4⟩ := vEl_parts hv
  have hrow := h.evs
  have hacc0 : accB l 0 = ttlB l.title ++ [10] ++ (fcmB l.drop ++ [10]) := by unfold accB; simp [flatL, evLs]
  have hsucc : ∀ k (hk : k < l.evs.length), accB l (k + 1) = accB l k ++ (evL l.base l.drop (k + 1) l.evs[k] ++ [10]) := fun k hk => accB_succ hk
  have hall : accB l l.evs.length = fmtB l := accB_all l
  have hne : ∀ k, accB l k ≠ [] := accB_ne l
  have hts : l.title.size ≤ 64 := (vLine_sz o2).2
  have htl : (ttlB l.title).length ≤ 200 := by
    have := (vLine_sz o2).2
    unfold ttlB
    rw [List.length_append, ba_len]
    simp only [List.length_cons, List.length_nil]
    omega
  generalize accB l = AC at *
  generalize fmtB l = FM at *
  obtain ⟨title, base, drop, evs⟩ := l
  clear h hv o2
  unfold El.val at *
  simp only at *
  obtain ⟨a, cap, rfl, ha⟩ := hrow.shape
  clear hrow
  have HE : Hid (∀ (B : Nat) w' acc (k : Nat) (hk : k < evs.length), Fs w B base drop [.string title, .int .i64 base, .bool drop, .slice a evs.length cap] w' acc → w.heap.size + 2 < B → acc.length ≤ 1000000 → Calls Tryz.prog 60 #[.pointer (some ⟨B, 0, none⟩), .int .i64 ((k : Int) + 1), evs[k].val] w' fun en w'' => en = .returned (.tuple #[]) ∧ Fs w B base drop [.string title, .int .i64 base, .bool drop, .slice a evs.length cap] w'' (acc ++ (evL base drop (k + 1) evs[k] ++ [10]))) := fun B w' acc k hk hs hB hl => by
    obtain ⟨m, hm0, hm⟩ := vEvs_at hk (Int.le_refl 0) o4
    refine (wevent_any w B base drop acc (k + 1) evs[k] m w' hT hs.gr (by omega) hs.wt o1 hm0 hm (by omega) (by omega) (by omega)).mono ?_
    rintro en w'' ⟨rfl, h1, h2⟩
    exact ⟨rfl, hs.step hB h1 h2⟩
  have HW : Hid (∀ (B : Nat) w' acc (s : ByteArray), Fs w B base drop [.string title, .int .i64 base, .bool drop, .slice a evs.length cap] w' acc → w.heap.size + 2 < B → acc.length + s.size ≤ 1000000 → Calls Tryz.prog 59 #[.pointer (some ⟨B, 0, none⟩), .string s] w' fun en w'' => en = .returned (.tuple #[]) ∧ Fs w B base drop [.string title, .int .i64 base, .bool drop, .slice a evs.length cap] w'' (acc ++ s.data.toList)) := fun B w' acc s hs hB hl => (wtext_any B base drop acc s w' hs.wt (by omega)).mono fun en w'' ⟨h1, h2, h3⟩ => ⟨h1, hs.step hB h2 h3⟩
  have HR : Hid (∀ (B : Nat) w' acc, Fs w B base drop [.string title, .int .i64 base, .bool drop, .slice a evs.length cap] w' acc → w.heap.size + 2 < B → acc ≠ [] → Calls Tryz.prog 61 #[.pointer (some ⟨B, 0, none⟩)] w' fun e w'' => e = .returned (.string ⟨acc.toArray⟩) ∧ Gr w w'' ∧ Cel w'' (w.heap.size + 1) [.string ⟨#[]⟩] ∧ Cel w'' (w.heap.size + 2) [.int .i64 0]) := fun B w' acc hs hB hl => (wread_any B base drop acc w' hs.wt hl).mono fun e w'' ⟨h1, h2⟩ => ⟨h1, Wb.gr h2 hs.gr (by omega), Wb.cel h2 (by omega) hs.c1, Wb.cel h2 (by omega) hs.c2⟩
  have fin : ∀ w1 : World, Gr (((w.alloc (.cells #[.string title, .int .i64 base, .bool drop, .slice a evs.length cap] 24)).alloc (.cells #[.string ⟨#[]⟩] 9)).alloc (.cells #[.int .i64 0] 36)) w1 → w.heap.size + 2 < w1.heap.size ∧ Gr w w1 ∧ Cel w1 w.heap.size [.string title, .int .i64 base, .bool drop, .slice a evs.length cap] ∧ Cel w1 (w.heap.size + 1) [.string ⟨#[]⟩] ∧ Cel w1 (w.heap.size + 2) [.int .i64 0] := by
    intro w1 hg1
    have k0 := ((Cel.new w #[.string title, .int .i64 base, .bool drop, .slice a evs.length cap] 24).alloc (.cells #[.string ⟨#[]⟩] 9)).alloc (.cells #[.int .i64 0] 36) |>.gr hg1
    have k1 := (Cel.new (w.alloc (.cells #[.string title, .int .i64 base, .bool drop, .slice a evs.length cap] 24)) #[.string ⟨#[]⟩] 9).alloc (.cells #[.int .i64 0] 36) |>.gr hg1
    have k2 := (Cel.new ((w.alloc (.cells #[.string title, .int .i64 base, .bool drop, .slice a evs.length cap] 24)).alloc (.cells #[.string ⟨#[]⟩] 9)) #[.int .i64 0] 36).gr hg1
    have hz := hg1.size
    simp at k0 k1 k2 hz
    exact ⟨by omega, ((((Gr.refl w).alloc _).alloc _).alloc _).trans hg1, k0, k1, k2⟩
  have fin := Lib.hid fin
  have hnew : Hid (∀ w1 : World, w.heap.size + 2 < w1.heap.size → Gr w w1 → Cel w1 w.heap.size [.string title, .int .i64 base, .bool drop, .slice a evs.length cap] → Cel w1 (w.heap.size + 1) [.string ⟨#[]⟩] → Cel w1 (w.heap.size + 2) [.int .i64 0] → Fs w w1.heap.size base drop [.string title, .int .i64 base, .bool drop, .slice a evs.length cap] (w1.alloc (.cells #[.pointer none, .slice none 0 0, .int .i64 base, .bool drop, .int .i64 0] 100)) []) := fun w1 h1 h2 h3 h4 h5 => by
    have hg := (Gr.refl w1).alloc (.cells #[.pointer none, .slice none 0 0, .int .i64 base, .bool drop, .int .i64 0] 100)
    exact ⟨h2.trans hg, Wt.new w1 base drop, h3.gr hg, h4.gr hg, h5.gr hg⟩
  have hcel : Hid (∀ B w' acc, Fs w B base drop [.string title, .int .i64 base, .bool drop, .slice a evs.length cap] w' acc → B < w'.heap.size ∧ w.heap.size < w'.heap.size ∧ w'.cell? ⟨w.heap.size, 0, none⟩ = some (.string title) ∧ w'.cell? ⟨w.heap.size, 1, none⟩ = some (.int .i64 base) ∧ w'.cell? ⟨w.heap.size, 2, none⟩ = some (.bool drop) ∧ w'.cell? ⟨w.heap.size, 3, none⟩ = some (.slice a evs.length cap)) := fun B w' acc hs => ⟨hs.wt.lt, hs.c0.lt, (hs.c0.2 0 _ rfl).1, (hs.c0.2 1 _ rfl).1, (hs.c0.2 2 _ rfl).1, (hs.c0.2 3 _ rfl).1⟩
  have hTT : Hid ((⟨#[84, 73, 84, 76, 69, 58, 32]⟩ ++ title ++ ⟨#[10]⟩ : ByteArray).data.toList = ttlB title ++ [10]) := Lib.hid (by unfold ttlB; simp)
  have hTs : Hid ((⟨#[84, 73, 84, 76, 69, 58, 32]⟩ ++ title ++ ⟨#[10]⟩ : ByteArray).size ≤ 300) := Lib.hid (by rw [← ba_len, hTT.out, List.length_append]; simp only [List.length_cons, List.length_nil]; omega)
  have hT := Lib.hid hT
  have ha := Lib.hid ha
  have htl := Lib.hid htl
  have hacc0 := Lib.hid hacc0
  have hsucc := Lib.hid hsucc
  have hall := Lib.hid hall
  have hne := Lib.hid hne
  have hesz : Hid (∀ k (hk : k < evs.length), (evL base drop (k + 1) evs[k]).length ≤ 100) := fun k hk => by
    obtain ⟨m, _, hm⟩ := vEvs_at hk (Int.le_refl 0) o4
    exact evL_size o1 hm
  clear o1 o4
  go_enter_defers Tryz.func23, Tryz.ntmps23
  go_upto_if 24 with (first
    | (go_at_call 13; (with_reducible refine (HV.out _ ?_).mono ?_); (· exact (by repeat (first | with_reducible exact Gr.refl _ | with_reducible assumption | refine Gr.setCell ?_ (by first | omega | (simp; done) | (simp; omega)) _ | refine Gr.alloc ?_ _ | refine Gr.drew ?_ | refine Gr.drewN ?_ _ | refine Gr.trans ?_ (by with_reducible assumption)))); rintro e w1 ⟨rfl, hg1⟩; obtain ⟨hBl, hgw1, k0, k1, k2⟩ := fin.out _ hg1; have hF1 := hnew.out _ hBl hgw1 k0 k1 k2; obtain ⟨hx0, hx, g0, g1, g2, g3⟩ := hcel.out _ _ _ hF1; have m0 := (k0.2 1 _ rfl).1; have m1 := (k0.2 2 _ rfl).1; have m2 := k0.lt)
    | (go_at_call 59; (with_reducible refine (HW.out w1.heap.size _ [] (⟨#[84, 73, 84, 76, 69, 58, 32]⟩ ++ title ++ ⟨#[10]⟩) hF1 hBl ?_).mono ?_); (· have h9 := hTs.out; simp only [List.length_nil]; omega); rintro en w2 ⟨rfl, hF2⟩; (rw [hTT.out, List.nil_append] at hF2); obtain ⟨hy0, hy, e0, e1, e2, e3⟩ := hcel.out _ _ _ hF2))
  generalize w1.heap.size = B at *
  clear hF1 hx0 hx g0 g1 g2 g3 m0 m1 m2 hg1 hgw1 k0 k1 k2 fin hnew HV
  go_cut [26] from 25 to 28 (fun _ wx => Fs w B base drop [.string title, .int .i64 base, .bool drop, .slice a evs.length cap] wx (AC 0))
  case first => as_aux_lemma =>
    cases drop
    · go_wp2_with (go_at_call 59; (with_reducible refine (HW.out B _ (ttlB title ++ [10]) ⟨#[70, 67, 77, 58, 32, 78, 79, 78, 45, 68, 82, 79, 80, 32, 70, 82, 65, 77, 69, 10]⟩ hF2 hBl ?_).mono ?_); (· have h9 := htl.out; rw [show (⟨#[70, 67, 77, 58, 32, 78, 79, 78, 45, 68, 82, 79, 80, 32, 70, 82, 65, 77, 69, 10]⟩ : ByteArray).size = 20 from rfl, List.length_append]; simp; omega); rintro en w3 ⟨rfl, hF3⟩)
      go_meet
      rw [hacc0.out]
      exact hF3
    · go_wp2_with (go_at_call 59; (with_reducible refine (HW.out B _ (ttlB title ++ [10]) ⟨#[70, 67, 77, 58, 32, 68, 82, 79, 80, 32, 70, 82, 65, 77, 69, 10]⟩ hF2 hBl ?_).mono ?_); (· have h9 := htl.out; rw [show (⟨#[70, 67, 77, 58, 32, 68, 82, 79, 80, 32, 70, 82, 65, 77, 69, 10]⟩ : ByteArray).size = 16 from rfl, List.length_append]; simp; omega); rintro en w3 ⟨rfl, hF3⟩)
      go_meet
      rw [hacc0.out]
      exact hF3
  case rest => as_aux_lemma =>
    have hl0 : (AC 0).length ≤ 300 := by
      rw [hacc0.out]
      have h9 := htl.out
      simp only [List.length_append, List.length_cons, List.length_nil]
      unfold fcmB
      split <;> simp <;> omega
    obtain ⟨hz0, hz, f0, f1, f2, f3⟩ := hcel.out _ _ _ hcut
    clear hF2 hy0 hy e0 e1 e2 e3
    go_upto_region 10 with fail
    clear hz0 hz f0 f1 f2 f3
    go_loopw [32] (fun i wr => ∃ k : Nat, k ≤ evs.length ∧ i = .int .i64 k ∧ Fs w B base drop [.string title, .int .i64 base, .bool drop, .slice a evs.length cap] wr (AC k) ∧ (AC k).length ≤ 300 + 200 * k) (fun i _ => evs.length - (RowKit.intOf i).toNat)
    case atStart => exact ⟨0, Nat.zero_le _, rfl, hcut, by omega⟩
    case round =>
      obtain ⟨k, hk, rfl, hF, hln⟩ := hrel
      clear hcut
      by_cases c1 : k < evs.length
      · have q6 : decide (k < evs.length) = true := decide_eq_true c1
        rcases ha.out with ha2 | ⟨bb, oo, rfl, hb, hc⟩
        · omega
        have hx1 : bb < wr.heap.size := Nat.lt_of_lt_of_le hb hF.gr.size
        obtain ⟨e0, e1, e2, e3, e4, e5, e6, e7⟩ := ev_cells c1 hb hF.gr hc
        have HEj := fun w' hs => HE.out B w' (AC k) k c1 hs hBl (by omega)
        have hsk := hsucc.out k c1
        have hes := hesz.out k c1
        generalize evs[k] = c at e0 e1 e2 e3 e4 e5 e6 e7 HEj hsk hes
        clear hc
        unfold Ev.val at HEj
        have HEj := Lib.hid HEj
        have hsk := Lib.hid hsk
        have hbox := Cel.new wr #[.int .i64 c.k, .int .i64 c.p, .int .i64 c.fr, .string c.reel, .int .i64 c.i, .int .i64 c.o, .int .i64 c.f, .int .i64 c.t] 30
        have hgb : Gr wr (wr.alloc (.cells #[.int .i64 c.k, .int .i64 c.p, .int .i64 c.fr, .string c.reel, .int .i64 c.i, .int .i64 c.o, .int .i64 c.f, .int .i64 c.t] 30)) := (Gr.refl wr).alloc _
        go_wp2_with (go_at_call 60; (with_reducible refine (HEj.out _ ?_).mono ?_); (· exact hF.by hgb); rintro en w4 ⟨rfl, hF4⟩)
        go_roundw
        case rel => exact ⟨k + 1, by omega, by go_num, by rw [hsk.out]; exact hF4, by rw [hsk.out]; simp only [List.length_append, List.length_cons, List.length_nil]; omega⟩
        case measure => simp [RowKit.intOf]; omega
      · have q6 : decide (k < evs.length) = false := decide_eq_false c1
        obtain rfl : k = evs.length := by omega
        have HRk := HR.out B wr _ hF hBl (hne.out _)
        rw [hall.out] at HRk
        have HRk := Lib.hid HRk
        have hx := hF.wt.lt
        obtain ⟨_, _, d4, _⟩ := hF.wt.cells
        go_wp2_with (go_at_call 61; (with_reducible refine HRk.out.mono ?_); rintro e w7 ⟨rfl, hg7, ks1, ks2⟩; obtain ⟨u1, u2⟩ := ks1.one; obtain ⟨u3, u4⟩ := ks2.one; have u5 := ks2.lt)
        refine leaves_cons (f := 58) (args := #[.pointer (some ⟨w.heap.size + 1, 0, none⟩), .pointer (some ⟨w.heap.size + 1 + 1, 0, none⟩)]) (by simp) (by simp [go_sem]) ?_
        refine (formatD_idle _ _ _).mono ?_
        rintro e u' w'' ⟨rfl, rfl, rfl⟩
        simp [Leaves, settle, results, Tryz.results23, go_sem, u1, u3]
        exact (by repeat (first | with_reducible exact Gr.refl _ | with_reducible assumption | refine Gr.setCell ?_ (by first | omega | (simp; done) | (simp; omega)) _ | refine Gr.alloc ?_ _ | refine Gr.drew ?_ | refine Gr.drewN ?_ _ | refine Gr.trans ?_ (by with_reducible assumption)))
end Go.Proofs.YtgbiodnfpbhjiaaGreatDoor
