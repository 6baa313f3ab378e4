
import Derived.Test.YthadhmhbbfjomaaGreatDoorMem
import Derived.Test.YthadhmhbbfjomaaGreatDoorChecked
import Derived.WalkSpells
import Derived.WalkLawsBesides
import Derived.Test.YthadhmhbbfjomaaGreatDoorKit
/-
  Contracts: which lines of text are valid, of package timeline and of the reference.
  Conditions: the string has at most 2^47 bytes.
-/
namespace Go.Proofs.YthadhmhbbfjomaaGreatDoor
open Go.RowKit Go.Lib
set_option linter.unusedSimpArgs false
set_option linter.unusedVariables false

def okB (b : UInt8) : Bool := decide (32 ≤ b.toNat) && decide (b.toNat ≤ 126)
/-- a valid line -/
def vLine (s : ByteArray) : Bool := decide (1 ≤ s.size) && decide (s.size ≤ 64) && s.data.toList.all okB

set_option maxHeartbeats 1000000 in
theorem validLine_any (s : ByteArray) (w : World) (hs : s.size ≤ 140737488355328) :
    Calls Tryz.prog 65 #[.string s] w fun e w' => e = .returned (.bool (vLine s)) ∧ Gr w w' := by
  obtain ⟨R, hR⟩ : ∃ R, s.data.toList.all okB = R := ⟨_, rfl⟩
  unfold vLine
  rw [hR]
  have HS : Hid ((s.data.toList.drop 0).all okB = R) := hR
  clear hR
  by_cases h1 : s.size < 1
  · have q1 : decide (s.size < 1) = true := decide_eq_true h1
    go_enter Tryz.func65, Tryz.ntmps65
    go_wp2
    go_ret
    exact ⟨by rw [decide_eq_false (by omega : ¬ 1 ≤ s.size)]; rfl, (by repeat (first | with_reducible exact Gr.refl _ | with_reducible assumption | refine Gr.setCell ?_ (by first | omega | (simp; done) | (simp; omega)) _ | refine Gr.alloc ?_ _ | refine Gr.drew ?_ | refine Gr.drewN ?_ _ | refine Gr.trans ?_ (by with_reducible assumption)))⟩
  by_cases h2 : 64 < s.size
  · have q1 : decide (s.size < 1) = false := decide_eq_false h1
    have q2 : decide (64 < s.size) = true := decide_eq_true h2
    go_enter Tryz.func65, Tryz.ntmps65
    go_wp2
    go_ret
    exact ⟨by rw [decide_eq_false (by omega : ¬ s.size ≤ 64)]; simp, (by repeat (first | with_reducible exact Gr.refl _ | with_reducible assumption | refine Gr.setCell ?_ (by first | omega | (simp; done) | (simp; omega)) _ | refine Gr.alloc ?_ _ | refine Gr.drew ?_ | refine Gr.drewN ?_ _ | refine Gr.trans ?_ (by with_reducible assumption)))⟩
  have q1 : decide (s.size < 1) = false := decide_eq_false h1
  have q2 : decide (64 < s.size) = false := decide_eq_false h2
  rw [decide_eq_true (by omega : 1 ≤ s.size), decide_eq_true (by omega : s.size ≤ 64)]
  go_enter Tryz.func65, Tryz.ntmps65
  go_wp2
  go_loop [3, 14] (fun _ k => ∃ kk : Nat, kk ≤ s.size ∧ k = .int .i64 kk ∧ Hid ((s.data.toList.drop kk).all okB = R)) (fun _ k => s.size - (RowKit.intOf k).toNat)
  case atStart => exact ⟨0, Nat.zero_le _, rfl, HS⟩
  case round =>
    obtain ⟨kk, h3, rfl, hno⟩ := hrel
    clear HS
    by_cases c1 : kk < s.size
    · have q3 : decide (kk < s.size) = true := decide_eq_true c1
      have hd := hno.out
      rw [ba_drop s kk c1, List.all_cons] at hd
      by_cases c2 : (s[kk].toNat : Int) < 32
      · have q4 : decide ((s[kk].toNat : Int) < 32) = true := decide_eq_true c2
        have hv : Hid (R = false) := by
          have : okB s[kk] = false := by unfold okB; rw [decide_eq_false (by omega)]; rfl
          rw [this] at hd
          exact hd.symm
        clear hd hno
        go_wp2
        go_ret
        exact ⟨by rw [hv.out]; rfl, (by repeat (first | with_reducible exact Gr.refl _ | with_reducible assumption | refine Gr.setCell ?_ (by first | omega | (simp; done) | (simp; omega)) _ | refine Gr.alloc ?_ _ | refine Gr.drew ?_ | refine Gr.drewN ?_ _ | refine Gr.trans ?_ (by with_reducible assumption)))⟩
      by_cases c3 : 126 < (s[kk].toNat : Int)
      · have q4 : decide ((s[kk].toNat : Int) < 32) = false := decide_eq_false c2
        have q5 : decide (126 < (s[kk].toNat : Int)) = true := decide_eq_true c3
        have hv : Hid (R = false) := by
          have : okB s[kk] = false := by unfold okB; rw [decide_eq_false (by omega : ¬ s[kk].toNat ≤ 126)]; simp
          rw [this] at hd
          exact hd.symm
        clear hd hno
        go_wp2
        go_ret
        exact ⟨by rw [hv.out]; rfl, (by repeat (first | with_reducible exact Gr.refl _ | with_reducible assumption | refine Gr.setCell ?_ (by first | omega | (simp; done) | (simp; omega)) _ | refine Gr.alloc ?_ _ | refine Gr.drew ?_ | refine Gr.drewN ?_ _ | refine Gr.trans ?_ (by with_reducible assumption)))⟩
      have q4 : decide ((s[kk].toNat : Int) < 32) = false := decide_eq_false c2
      have q5 : decide (126 < (s[kk].toNat : Int)) = false := decide_eq_false c3
      have hv : Hid ((s.data.toList.drop (kk + 1)).all okB = R) := by
        have : okB s[kk] = true := by unfold okB; rw [decide_eq_true (by omega), decide_eq_true (by omega)]; rfl
        rw [this] at hd
        exact hd
      clear hd hno
      go_wp2
      exact ⟨⟨kk + 1, by omega, by go_num, hv⟩, by simp [RowKit.intOf]; omega⟩
    · have q3 : decide (kk < s.size) = false := decide_eq_false c1
      have hv : Hid (R = true) := by
        have hd := hno.out
        rw [ba_drop_end s kk (by omega)] at hd
        exact hd.symm
      clear hno
      go_wp2
      go_ret
      exact ⟨by rw [hv.out]; rfl, (by repeat (first | with_reducible exact Gr.refl _ | with_reducible assumption | refine Gr.setCell ?_ (by first | omega | (simp; done) | (simp; omega)) _ | refine Gr.alloc ?_ _ | refine Gr.drew ?_ | refine Gr.drewN ?_ _ | refine Gr.trans ?_ (by with_reducible assumption)))⟩

end Go.Proofs.YthadhmhbbfjomaaGreatDoor

/-
  Contracts: which captions are valid, of package timeline and of the reference.
  Conditions: the lines lie in memory; each has at most 2^47 bytes.
-/
namespace Go.Proofs.YthadhmhbbfjomaaGreatDoor
open Go.RowKit Go.Lib
set_option linter.unusedSimpArgs false
set_option linter.unusedVariables false

/-- a valid caption -/
def vCue (f t : Int) (ss : List ByteArray) : Bool := decide (0 ≤ f ∧ f < t ∧ t ≤ 2147483647 ∧ 1 ≤ ss.length ∧ ss.length ≤ 4) && ss.all vLine
theorem vCue_no {f t : Int} {ss : List ByteArray} (h : ¬ (0 ≤ f ∧ f < t ∧ t ≤ 2147483647 ∧ 1 ≤ ss.length ∧ ss.length ≤ 4)) : vCue f t ss = false := by unfold vCue; rw [decide_eq_false h]; rfl
theorem vCue_yes {f t : Int} {ss : List ByteArray} (h : 0 ≤ f ∧ f < t ∧ t ≤ 2147483647 ∧ 1 ≤ ss.length ∧ ss.length ≤ 4) : vCue f t ss = ss.all vLine := by unfold vCue; rw [decide_eq_true h]; rfl

set_option maxHeartbeats 2000000 in
theorem validCue_any (f t : Int) (lv : Value) (ss : List ByteArray) (w : World) (hf : -9223372036854775808 ≤ f ∧ f ≤ 9223372036854775807) (ht : -9223372036854775808 ≤ t ∧ t ≤ 9223372036854775807)
    (hS : StrsR w lv ss) (hz : ∀ s ∈ ss, s.size ≤ 140737488355328) (hl : ss.length ≤ 140737488355328) :
    Calls Tryz.prog 36 #[.agg #[.int .i64 f, .int .i64 t, lv]] w fun e w' => e = .returned (.bool (vCue f t ss)) ∧ Gr w w' := by
  obtain ⟨a, cap, rfl, ha⟩ := hS.shape
  clear hS
  by_cases g1 : f < 0
  · rw [vCue_no (by omega)]
    have q1 : decide (f < 0) = true := decide_eq_true g1
    go_enter Tryz.func36, Tryz.ntmps36
    go_wp2
    go_ret
    exact ⟨rfl, (by repeat (first | with_reducible exact Gr.refl _ | with_reducible assumption | refine Gr.setCell ?_ (by first | omega | (simp; done) | (simp; omega)) _ | refine Gr.alloc ?_ _ | refine Gr.drew ?_ | refine Gr.drewN ?_ _ | refine Gr.trans ?_ (by with_reducible assumption)))⟩
  have q1 : decide (f < 0) = false := decide_eq_false g1
  by_cases g2 : t ≤ f
  · rw [vCue_no (by omega)]
    have q2 : decide (t ≤ f) = true := decide_eq_true g2
    go_enter Tryz.func36, Tryz.ntmps36
    go_wp2
    go_ret
    exact ⟨rfl, (by repeat (first | with_reducible exact Gr.refl _ | with_reducible assumption | refine Gr.setCell ?_ (by first | omega | (simp; done) | (simp; omega)) _ | refine Gr.alloc ?_ _ | refine Gr.drew ?_ | refine Gr.drewN ?_ _ | refine Gr.trans ?_ (by with_reducible assumption)))⟩
  have q2 : decide (t ≤ f) = false := decide_eq_false g2
  by_cases g3 : 2147483647 < t
  · rw [vCue_no (by omega)]
    have q3 : decide (2147483647 < t) = true := decide_eq_true g3
    go_enter Tryz.func36, Tryz.ntmps36
    go_wp2
    go_ret
    exact ⟨rfl, (by repeat (first | with_reducible exact Gr.refl _ | with_reducible assumption | refine Gr.setCell ?_ (by first | omega | (simp; done) | (simp; omega)) _ | refine Gr.alloc ?_ _ | refine Gr.drew ?_ | refine Gr.drewN ?_ _ | refine Gr.trans ?_ (by with_reducible assumption)))⟩
  have q3 : decide (2147483647 < t) = false := decide_eq_false g3
  by_cases g4 : ss.length < 1
  · rw [vCue_no (by omega)]
    have q4 : decide (ss.length < 1) = true := decide_eq_true g4
    go_enter Tryz.func36, Tryz.ntmps36
    go_wp2
    go_ret
    exact ⟨rfl, (by repeat (first | with_reducible exact Gr.refl _ | with_reducible assumption | refine Gr.setCell ?_ (by first | omega | (simp; done) | (simp; omega)) _ | refine Gr.alloc ?_ _ | refine Gr.drew ?_ | refine Gr.drewN ?_ _ | refine Gr.trans ?_ (by with_reducible assumption)))⟩
  have q4 : decide (ss.length < 1) = false := decide_eq_false g4
  by_cases g5 : 4 < ss.length
  · rw [vCue_no (by omega)]
    have q5 : decide (4 < ss.length) = true := decide_eq_true g5
    go_enter Tryz.func36, Tryz.ntmps36
    go_wp2
    go_ret
    exact ⟨rfl, (by repeat (first | with_reducible exact Gr.refl _ | with_reducible assumption | refine Gr.setCell ?_ (by first | omega | (simp; done) | (simp; omega)) _ | refine Gr.alloc ?_ _ | refine Gr.drew ?_ | refine Gr.drewN ?_ _ | refine Gr.trans ?_ (by with_reducible assumption)))⟩
  have q5 : decide (4 < ss.length) = false := decide_eq_false g5
  rw [vCue_yes (by omega)]
  rcases ha with ha | ⟨b, o, rfl, hb, hc⟩
  · omega
  obtain ⟨R, hR⟩ : ∃ R, ss.all vLine = R := ⟨_, rfl⟩
  rw [hR]
  have HS : Hid ((ss.drop 0).all vLine = R) := hR
  clear hR
  have hc := Lib.hid hc
  go_enter Tryz.func36, Tryz.ntmps36
  go_wp2
  go_loopw [4, 35] (fun _ k wr => ∃ kk : Nat, kk ≤ ss.length ∧ k = .int .i64 kk ∧ Hid ((ss.drop kk).all vLine = R) ∧ Gr w wr) (fun _ k _ => ss.length - (RowKit.intOf k).toNat)
  case atStart => exact ⟨0, Nat.zero_le _, rfl, HS, (by repeat (first | with_reducible exact Gr.refl _ | with_reducible assumption | refine Gr.setCell ?_ (by first | omega | (simp; done) | (simp; omega)) _ | refine Gr.alloc ?_ _ | refine Gr.drew ?_ | refine Gr.drewN ?_ _ | refine Gr.trans ?_ (by with_reducible assumption)))⟩
  case round =>
    obtain ⟨kk, h3, rfl, hno, hg⟩ := hrel
    clear HS
    obtain ⟨hcg, hfg⟩ := hg.cells
    by_cases c1 : kk < ss.length
    · have q6 : decide (kk < ss.length) = true := decide_eq_true c1
      have hd := hno.out
      rw [List.drop_eq_getElem_cons c1, List.all_cons] at hd
      have hcell : wr.cell? ⟨b, o + kk, none⟩ = some (.string ss[kk]) := (hcg b _ hb).trans (hc.out kk c1)
      have hzk := hz ss[kk] (List.getElem_mem c1)
      generalize ss[kk] = sk at hd hcell hzk
      cases hv : vLine sk with
      | false =>
        rw [hv] at hd
        have hV : Hid (R = false) := hd.symm
        have HL : Hid (∀ w, Calls Tryz.prog 65 #[.string sk] w fun e w' => e = .returned (.bool false) ∧ Gr w w') := fun w => by rw [← hv]; exact validLine_any sk w hzk
        clear hd hno hv hz hc hcg hfg
        go_wp2_with (go_at_call 65; with_reducible refine (HL.out _).mono ?_; rintro e w1 ⟨rfl, hg1⟩)
        go_ret
        exact ⟨by rw [hV.out]; rfl, (by repeat (first | with_reducible exact Gr.refl _ | with_reducible assumption | refine Gr.setCell ?_ (by first | omega | (simp; done) | (simp; omega)) _ | refine Gr.alloc ?_ _ | refine Gr.drew ?_ | refine Gr.drewN ?_ _ | refine Gr.trans ?_ (by with_reducible assumption)))⟩
      | true =>
        rw [hv] at hd
        have hV : Hid ((ss.drop (kk + 1)).all vLine = R) := hd
        have HL : Hid (∀ w, Calls Tryz.prog 65 #[.string sk] w fun e w' => e = .returned (.bool true) ∧ Gr w w') := fun w => by rw [← hv]; exact validLine_any sk w hzk
        clear hd hno hv hz hc hcg hfg
        go_wp2_with (go_at_call 65; with_reducible refine (HL.out _).mono ?_; rintro e w1 ⟨rfl, hg1⟩)
        go_roundw
        case rel => exact ⟨kk + 1, by omega, by go_num, hV, (by repeat (first | with_reducible exact Gr.refl _ | with_reducible assumption | refine Gr.setCell ?_ (by first | omega | (simp; done) | (simp; omega)) _ | refine Gr.alloc ?_ _ | refine Gr.drew ?_ | refine Gr.drewN ?_ _ | refine Gr.trans ?_ (by with_reducible assumption)))⟩
        case measure => simp [RowKit.intOf]; omega
    · have q6 : decide (kk < ss.length) = false := decide_eq_false c1
      have hV : Hid (R = true) := by
        have hd := hno.out
        rw [List.drop_of_length_le (by omega)] at hd
        exact hd.symm
      clear hno hc hz
      go_wp2
      go_ret
      exact ⟨by rw [hV.out]; rfl, (by repeat (first | with_reducible exact Gr.refl _ | with_reducible assumption | refine Gr.setCell ?_ (by first | omega | (simp; done) | (simp; omega)) _ | refine Gr.alloc ?_ _ | refine Gr.drew ?_ | refine Gr.drewN ?_ _ | refine Gr.trans ?_ (by with_reducible assumption)))⟩

end Go.Proofs.YthadhmhbbfjomaaGreatDoor

/-
  Contracts: lists of captions: valid or not, of package captions and of the reference; lists of strings that are equal.
  Conditions: the lists lie in memory and are of a size that memory has.
-/
namespace Go.Proofs.YthadhmhbbfjomaaGreatDoor
open Go.RowKit Go.Lib
set_option linter.unusedSimpArgs false
set_option linter.unusedVariables false

/-- what is known of a caption that lies in memory -/
structure CuOk (c : Cu) : Prop where
  f1 : -9223372036854775808 ≤ c.f
  f2 : c.f ≤ 9223372036854775807
  t1 : -9223372036854775808 ≤ c.t
  t2 : c.t ≤ 9223372036854775807
  n : c.ss.length ≤ 140737488355328
  s : ∀ s ∈ c.ss, s.size ≤ 140737488355328
/-- a list of captions in memory -/
structure Cues (W : World) (v : Value) (cs : List Cu) : Prop where
  at_ : CuesR W v cs
  ok : ∀ c ∈ cs, CuOk c
  n : cs.length ≤ 3518437208883
theorem Cues.gr {W w : World} {v : Value} {cs : List Cu} (hg : Gr W w) (h : Cues W v cs) : Cues w v cs := ⟨h.at_.gr hg, h.ok, h.n⟩
def vCu (c : Cu) : Bool := vCue c.f c.t c.ss
def vCues (cs : List Cu) : Bool := cs.all vCu

set_option maxHeartbeats 2000000 in
theorem cvalid_any (v : Value) (cs : List Cu) (w : World) (hC : Cues w v cs) :
    Calls Tryz.prog 19 #[v] w fun e w' => e = .returned (.bool (vCues cs)) ∧ Gr w w' := by
  obtain ⟨a, cap, rfl, ha⟩ := hC.at_.shape
  have hlen := hC.n
  have hC := Lib.hid hC
  obtain ⟨R, hR⟩ : ∃ R, vCues cs = R := ⟨_, rfl⟩
  rw [hR]
  have HS : Hid ((cs.drop 0).all vCu = R) := hR
  clear hR
  have ha := Lib.hid ha
  go_enter Tryz.func19, Tryz.ntmps19
  go_wp2
  go_loopw [7] (fun k wr => ∃ kk : Nat, kk ≤ cs.length ∧ k = .int .i64 kk ∧ Hid ((cs.drop kk).all vCu = R) ∧ Gr w wr) (fun k _ => cs.length - (RowKit.intOf k).toNat)
  case atStart => exact ⟨0, Nat.zero_le _, rfl, HS, (by repeat (first | with_reducible exact Gr.refl _ | with_reducible assumption | refine Gr.setCell ?_ (by first | omega | (simp; done) | (simp; omega)) _ | refine Gr.alloc ?_ _ | refine Gr.drew ?_ | refine Gr.drewN ?_ _ | refine Gr.trans ?_ (by with_reducible assumption)))⟩
  case round =>
    obtain ⟨kk, h3, rfl, hno, hg⟩ := hrel
    clear HS
    obtain ⟨hcg, hfg⟩ := hg.cells
    by_cases c1 : kk < cs.length
    · have q6 : decide (kk < cs.length) = true := decide_eq_true c1
      rcases ha.out with ha2 | ⟨b, o, rfl, hb, hc⟩
      · omega
      have hd := hno.out
      rw [List.drop_eq_getElem_cons c1, List.all_cons] at hd
      have hc := hc kk c1
      have e0 := (hcg b _ hb).trans hc.1
      have e1 := (hcg b _ hb).trans hc.2.1
      have e2 := (hcg b _ hb).trans hc.2.2
      have hok := hC.out.ok _ (List.getElem_mem c1)
      have hst := (hC.out.at_.2 _ (List.getElem_mem c1)).gr hg
      generalize cs[kk] = c at hd e0 e1 e2 hok hst
      clear hc
      have hall : Hid (∀ w', Gr wr w' → Calls Tryz.prog 36 #[.agg #[.int .i64 c.f, .int .i64 c.t, c.lv]] w' fun e w'' => e = .returned (.bool (vCu c)) ∧ Gr w' w'') :=
        fun w' hg' => validCue_any c.f c.t c.lv c.ss w' ⟨hok.f1, hok.f2⟩ ⟨hok.t1, hok.t2⟩ (hst.gr hg') hok.s hok.n
      obtain ⟨a2, cap2, hlv, hsh⟩ := hst.shape
      clear hsh
      cases hv : vCu c with
      | false =>
        rw [hv] at hd hall
        have hV : Hid (R = false) := hd.symm
        clear hd hno hv ha hcg hfg hC hst
        rw [hlv] at e2 hall
        clear hlv hok
        go_wp2_with (go_at_call 36; (with_reducible refine (hall.out _ ?_).mono ?_); (· exact (by repeat (first | with_reducible exact Gr.refl _ | with_reducible assumption | refine Gr.setCell ?_ (by first | omega | (simp; done) | (simp; omega)) _ | refine Gr.alloc ?_ _ | refine Gr.drew ?_ | refine Gr.drewN ?_ _ | refine Gr.trans ?_ (by with_reducible assumption)))); rintro e w1 ⟨rfl, hg1⟩)
        go_ret
        exact ⟨by rw [hV.out]; rfl, (by repeat (first | with_reducible exact Gr.refl _ | with_reducible assumption | refine Gr.setCell ?_ (by first | omega | (simp; done) | (simp; omega)) _ | refine Gr.alloc ?_ _ | refine Gr.drew ?_ | refine Gr.drewN ?_ _ | refine Gr.trans ?_ (by with_reducible assumption)))⟩
      | true =>
        rw [hv] at hd hall
        have hV : Hid ((cs.drop (kk + 1)).all vCu = R) := hd
        clear hd hno hv ha hcg hfg hC hst
        rw [hlv] at e2 hall
        clear hlv hok
        go_wp2_with (go_at_call 36; (with_reducible refine (hall.out _ ?_).mono ?_); (· exact (by repeat (first | with_reducible exact Gr.refl _ | with_reducible assumption | refine Gr.setCell ?_ (by first | omega | (simp; done) | (simp; omega)) _ | refine Gr.alloc ?_ _ | refine Gr.drew ?_ | refine Gr.drewN ?_ _ | refine Gr.trans ?_ (by with_reducible assumption)))); rintro e w1 ⟨rfl, hg1⟩)
        go_roundw
        case rel => exact ⟨kk + 1, by omega, by go_num, hV, (by repeat (first | with_reducible exact Gr.refl _ | with_reducible assumption | refine Gr.setCell ?_ (by first | omega | (simp; done) | (simp; omega)) _ | refine Gr.alloc ?_ _ | refine Gr.drew ?_ | refine Gr.drewN ?_ _ | refine Gr.trans ?_ (by with_reducible assumption)))⟩
        case measure => simp [RowKit.intOf]; omega
    · have q6 : decide (kk < cs.length) = false := decide_eq_false c1
      have hV : Hid (R = true) := by
        have hd := hno.out
        rw [List.drop_of_length_le (by omega)] at hd
        exact hd.symm
      clear hno ha hcg hfg hC
      go_wp2
      go_ret
      exact ⟨by rw [hV.out]; rfl, (by repeat (first | with_reducible exact Gr.refl _ | with_reducible assumption | refine Gr.setCell ?_ (by first | omega | (simp; done) | (simp; omega)) _ | refine Gr.alloc ?_ _ | refine Gr.drew ?_ | refine Gr.drewN ?_ _ | refine Gr.trans ?_ (by with_reducible assumption)))⟩
end Go.Proofs.YthadhmhbbfjomaaGreatDoor

/-
  Contracts: lists of strings that are equal; lists of captions that are equal.
  Conditions: the lists lie in memory and are of a size that memory has.
-/
namespace Go.Proofs.YthadhmhbbfjomaaGreatDoor
open Go.RowKit Go.Lib
set_option linter.unusedSimpArgs false
set_option linter.unusedVariables false

set_option maxHeartbeats 2000000 in
theorem strings_any (va vb : Value) (xs ys : List ByteArray) (w : World) (hA : StrsR w va xs) (hB : StrsR w vb ys) (hla : xs.length ≤ 140737488355328) (hlb : ys.length ≤ 140737488355328) :
    Calls Tryz.prog 7 #[va, vb] w fun e w' => e = .returned (.bool (decide (xs = ys))) ∧ Gr w w' := by
  obtain ⟨a1, cap1, rfl, ha1⟩ := hA.shape
  obtain ⟨a2, cap2, rfl, ha2⟩ := hB.shape
  clear hA hB
  by_cases hn : ¬ xs.length = ys.length
  · have q : (xs.length != ys.length) = true := by simpa using hn
    have q1 : ((xs.length : Int) != (ys.length : Int)) = true := by simp; omega
    clear ha1 ha2
    go_enter Tryz.func7, Tryz.ntmps7
    go_wp2
    go_ret
    exact ⟨by rw [decide_eq_false (fun h => hn (by rw [h]))]; rfl, (by repeat (first | with_reducible exact Gr.refl _ | with_reducible assumption | refine Gr.setCell ?_ (by first | omega | (simp; done) | (simp; omega)) _ | refine Gr.alloc ?_ _ | refine Gr.drew ?_ | refine Gr.drewN ?_ _ | refine Gr.trans ?_ (by with_reducible assumption)))⟩
  replace hn : xs.length = ys.length := Classical.not_not.1 hn
  obtain ⟨R, hR⟩ : ∃ R, decide (xs = ys) = R := ⟨_, rfl⟩
  rw [hR]
  have HS : Hid (decide (xs.drop 0 = ys.drop 0) = R) := hR
  clear hR
  have ha1 := Lib.hid ha1
  have ha2 := Lib.hid ha2
  have hlb2 : Hid (xs.length = ys.length) := hn
  generalize hnb : ys.length = nb at hlb2 ⊢
  have hnb := Lib.hid hnb
  obtain rfl : nb = xs.length := hlb2.out.symm
  clear hlb2 hn
  go_enter Tryz.func7, Tryz.ntmps7
  go_wp2
  go_loopw [5] (fun k wr => ∃ kk : Nat, kk ≤ xs.length ∧ k = .int .i64 kk ∧ Hid (decide (xs.drop kk = ys.drop kk) = R) ∧ Gr w wr) (fun k _ => xs.length - (RowKit.intOf k).toNat)
  case atStart => exact ⟨0, Nat.zero_le _, rfl, HS, (by repeat (first | with_reducible exact Gr.refl _ | with_reducible assumption | refine Gr.setCell ?_ (by first | omega | (simp; done) | (simp; omega)) _ | refine Gr.alloc ?_ _ | refine Gr.drew ?_ | refine Gr.drewN ?_ _ | refine Gr.trans ?_ (by with_reducible assumption)))⟩
  case round =>
    obtain ⟨kk, h3, rfl, hno, hg⟩ := hrel
    clear HS
    obtain ⟨hcg, hfg⟩ := hg.cells
    by_cases c1 : kk < xs.length
    · have q6 : decide (kk < xs.length) = true := decide_eq_true c1
      have c2 : kk < ys.length := by rw [hnb.out]; exact c1
      rcases ha1.out with h | ⟨b1, o1, rfl, hb1, hc1⟩
      · omega
      rcases ha2.out with h | ⟨b2, o2, rfl, hb2, hc2⟩
      · omega
      have hd := hno.out
      rw [List.drop_eq_getElem_cons c1, List.drop_eq_getElem_cons c2] at hd
      have e1 := (hcg b1 _ hb1).trans (hc1 kk c1)
      have e2 := (hcg b2 _ hb2).trans (hc2 kk c2)
      have hx1 : b1 < wr.heap.size := Nat.lt_of_lt_of_le hb1 hg.size
      have hx2 : b2 < wr.heap.size := Nat.lt_of_lt_of_le hb2 hg.size
      generalize xs[kk] = sa at hd e1
      generalize ys[kk] = sb at hd e2
      clear hcg hfg hc1 hc2 ha1 ha2
      by_cases e : sa = sb
      · subst e
        have hV : Hid (decide (xs.drop (kk + 1) = ys.drop (kk + 1)) = R) := by
          rw [← hd]
          show _ = _
          simp
        clear hd hno hnb
        go_wp2
        refine wp_region_gr (by kernel_rfl) (by kernel_rfl) (fun hq1 hq2 => ?_)
        repeat (first | go_big_quiet_skip | (go_big_quiet_want; go_big_quiet_op; first | go_big_quiet_on | (apply Exists.intro; refine ⟨fun _ => ?_, ?_⟩; (· (fail)); go_big_quiet_on)))
        refine wpQuiet_nil ?_
        clear hq1 hq2
        rintro w1 ⟨⟨_, hg1⟩, rfl⟩
        obtain ⟨hc1, hf1⟩ := hg1.cells
        have hz1 := hg1.size
        (try simp at hz1); (try have hl1_0_0 : w.heap.size < w1.heap.size := by omega); (try have hm1_0_0 : w.heap.size ≤ w1.heap.size := by omega); (try have hl1_0_1 : w.heap.size + 1 < w1.heap.size := by omega); (try have hl1_0_2 : w.heap.size + 2 < w1.heap.size := by omega)
        go_wp2
        go_roundw
        case rel => exact ⟨kk + 1, by omega, by go_num, hV, (by repeat (first | with_reducible exact Gr.refl _ | with_reducible assumption | refine Gr.setCell ?_ (by first | omega | (simp; done) | (simp; omega)) _ | refine Gr.alloc ?_ _ | refine Gr.drew ?_ | refine Gr.drewN ?_ _ | refine Gr.trans ?_ (by with_reducible assumption)))⟩
        case measure => simp [RowKit.intOf]; omega
      · have hV : Hid (R = false) := by
          rw [← hd]
          show _ = _
          simp [e]
        have q7 := ba_neq e
        clear hd hno e hnb
        go_wp2
        refine wp_region_gr (by kernel_rfl) (by kernel_rfl) (fun hq1 hq2 => ?_)
        repeat (first | go_big_quiet_skip | (go_big_quiet_want; go_big_quiet_op; first | go_big_quiet_on | (apply Exists.intro; refine ⟨fun _ => ?_, ?_⟩; (· (fail)); go_big_quiet_on)))
        refine wpQuiet_nil ?_
        clear hq1 hq2
        rintro w1 ⟨⟨_, hg1⟩, rfl⟩
        obtain ⟨hc1, hf1⟩ := hg1.cells
        have hz1 := hg1.size
        (try simp at hz1); (try have hl1_0_0 : w.heap.size < w1.heap.size := by omega); (try have hm1_0_0 : w.heap.size ≤ w1.heap.size := by omega); (try have hl1_0_1 : w.heap.size + 1 < w1.heap.size := by omega); (try have hl1_0_2 : w.heap.size + 2 < w1.heap.size := by omega)
        go_wp2
        go_ret
        exact ⟨by rw [hV.out]; rfl, (by repeat (first | with_reducible exact Gr.refl _ | with_reducible assumption | refine Gr.setCell ?_ (by first | omega | (simp; done) | (simp; omega)) _ | refine Gr.alloc ?_ _ | refine Gr.drew ?_ | refine Gr.drewN ?_ _ | refine Gr.trans ?_ (by with_reducible assumption)))⟩
    · have q6 : decide (kk < xs.length) = false := decide_eq_false c1
      have hV : Hid (R = true) := by
        have hd := hno.out
        have := hnb.out
        rw [List.drop_of_length_le (by omega), List.drop_of_length_le (by omega)] at hd
        rw [← hd]
        rfl
      clear hno ha1 ha2 hcg hfg
      go_wp2
      go_ret
      exact ⟨by rw [hV.out]; rfl, (by repeat (first | with_reducible exact Gr.refl _ | with_reducible assumption | refine Gr.setCell ?_ (by first | omega | (simp; done) | (simp; omega)) _ | refine Gr.alloc ?_ _ | refine Gr.drew ?_ | refine Gr.drewN ?_ _ | refine Gr.trans ?_ (by with_reducible assumption)))⟩

def cAbs (c : Cu) : Int × Int × List ByteArray := (c.f, c.t, c.ss)
theorem cAbs_cons {a b : Cu} {x y : List Cu} : ((a :: x).map cAbs = (b :: y).map cAbs) ↔ ((a.f = b.f ∧ a.t = b.t ∧ a.ss = b.ss) ∧ x.map cAbs = y.map cAbs) := by
  simp only [List.map_cons, List.cons.injEq, cAbs, Prod.mk.injEq]
set_option maxHeartbeats 4000000 in
theorem same_any (va vb : Value) (xs ys : List Cu) (w : World) (hA : Cues w va xs) (hB : Cues w vb ys) :
    Calls Tryz.prog 9 #[va, vb] w fun e w' => e = .returned (.bool (decide (xs.map cAbs = ys.map cAbs))) ∧ Gr w w' := by
  obtain ⟨a1, cap1, rfl, ha1⟩ := hA.at_.shape
  obtain ⟨a2, cap2, rfl, ha2⟩ := hB.at_.shape
  have hla := hA.n
  have hlb := hB.n
  by_cases hn : ¬ xs.length = ys.length
  · have q1 : ((xs.length : Int) != (ys.length : Int)) = true := by simp; omega
    clear ha1 ha2
    go_enter Tryz.func9, Tryz.ntmps9
    go_wp2
    go_ret
    exact ⟨by rw [decide_eq_false (fun h => hn (by have := congrArg List.length h; simpa using this))]; rfl, (by repeat (first | with_reducible exact Gr.refl _ | with_reducible assumption | refine Gr.setCell ?_ (by first | omega | (simp; done) | (simp; omega)) _ | refine Gr.alloc ?_ _ | refine Gr.drew ?_ | refine Gr.drewN ?_ _ | refine Gr.trans ?_ (by with_reducible assumption)))⟩
  replace hn : xs.length = ys.length := Classical.not_not.1 hn
  obtain ⟨R, hR⟩ : ∃ R, decide (xs.map cAbs = ys.map cAbs) = R := ⟨_, rfl⟩
  rw [hR]
  have HS : Hid (decide ((xs.drop 0).map cAbs = (ys.drop 0).map cAbs) = R) := hR
  clear hR
  have ha1 := Lib.hid ha1
  have ha2 := Lib.hid ha2
  have hA := Lib.hid hA
  have hB := Lib.hid hB
  have hlb2 : Hid (xs.length = ys.length) := hn
  generalize hnb : ys.length = nb at hlb2 hB ⊢
  have hnb := Lib.hid hnb
  obtain rfl : nb = xs.length := hlb2.out.symm
  clear hlb2 hn
  go_enter Tryz.func9, Tryz.ntmps9
  go_wp2
  go_loopw [5] (fun k wr => ∃ kk : Nat, kk ≤ xs.length ∧ k = .int .i64 kk ∧ Hid (decide ((xs.drop kk).map cAbs = (ys.drop kk).map cAbs) = R) ∧ Gr w wr) (fun k _ => xs.length - (RowKit.intOf k).toNat)
  case atStart => exact ⟨0, Nat.zero_le _, rfl, HS, (by repeat (first | with_reducible exact Gr.refl _ | with_reducible assumption | refine Gr.setCell ?_ (by first | omega | (simp; done) | (simp; omega)) _ | refine Gr.alloc ?_ _ | refine Gr.drew ?_ | refine Gr.drewN ?_ _ | refine Gr.trans ?_ (by with_reducible assumption)))⟩
  case round =>
    obtain ⟨kk, h3, rfl, hno, hg⟩ := hrel
    clear HS
    obtain ⟨hcg, hfg⟩ := hg.cells
    by_cases c1 : kk < xs.length
    · have q6 : decide (kk < xs.length) = true := decide_eq_true c1
      have c2 : kk < ys.length := by rw [hnb.out]; exact c1
      rcases ha1.out with h | ⟨b1, o1, rfl, hb1, hc1⟩
      · omega
      rcases ha2.out with h | ⟨b2, o2, rfl, hb2, hc2⟩
      · omega
      have hd := hno.out
      rw [List.drop_eq_getElem_cons c1, List.drop_eq_getElem_cons c2] at hd
      have hc1 := hc1 kk c1
      have hc2 := hc2 kk c2
      have e0 := (hcg b1 _ hb1).trans hc1.1
      have e1 := (hcg b1 _ hb1).trans hc1.2.1
      have e2 := (hcg b1 _ hb1).trans hc1.2.2
      have i0 := (hcg b2 _ hb2).trans hc2.1
      have i1 := (hcg b2 _ hb2).trans hc2.2.1
      have i2 := (hcg b2 _ hb2).trans hc2.2.2
      have hx1 : b1 < wr.heap.size := Nat.lt_of_lt_of_le hb1 hg.size
      have hx2 : b2 < wr.heap.size := Nat.lt_of_lt_of_le hb2 hg.size
      have hsa := (hA.out.at_.2 _ (List.getElem_mem c1)).gr hg
      have hsb := (hB.out.at_.2 _ (List.getElem_mem c2)).gr hg
      have oka := hA.out.ok _ (List.getElem_mem c1)
      have okb := hB.out.ok _ (List.getElem_mem c2)
      generalize xs[kk] = sa at hd e0 e1 e2 hsa oka
      generalize ys[kk] = sb at hd i0 i1 i2 hsb okb
      clear hcg hfg hc1 hc2 ha1 ha2 hA hB
      have HL : Hid (∀ w', Gr wr w' → Calls Tryz.prog 7 #[sa.lv, sb.lv] w' fun e w'' => e = .returned (.bool (decide (sa.ss = sb.ss))) ∧ Gr w' w'') := fun w' hg' => strings_any _ _ _ _ w' (hsa.gr hg') (hsb.gr hg') oka.n okb.n
      obtain ⟨p1, k1, hl1, hh1⟩ := hsa.shape
      obtain ⟨p2, k2, hl2, hh2⟩ := hsb.shape
      clear hh1 hh2 hsa hsb
      rw [hl1] at e2 HL
      rw [hl2] at i2 HL
      by_cases d1 : sa.f = sb.f
      · by_cases d2 : sa.t = sb.t
        · have r1 : (sa.f != sb.f) = false := by simp [d1]
          have r2 : (sa.t != sb.t) = false := by simp [d2]
          by_cases d3 : sa.ss = sb.ss
          · have hV : Hid (decide ((xs.drop (kk + 1)).map cAbs = (ys.drop (kk + 1)).map cAbs) = R) := by
              rw [← hd]
              show _ = _
              simp only [cAbs_cons, d1, d2, d3, true_and]
            rw [decide_eq_true d3] at HL
            clear hd hno hnb hl1 hl2 d1 d2 d3 oka okb
            go_wp2
            refine wp_region_gr (by kernel_rfl) (by kernel_rfl) (fun hq1 hq2 => ?_)
            repeat (first | go_big_quiet_skip | (go_big_quiet_want; go_big_quiet_op; first | go_big_quiet_on | (apply Exists.intro; refine ⟨fun _ => ?_, ?_⟩; (· ((go_at_call 7; exact gr_call (HL.out _ (GW.h _))))); go_big_quiet_on)))
            refine wpQuiet_nil ?_
            clear hq1 hq2
            rintro w1 ⟨⟨_, hg1⟩, rfl⟩
            obtain ⟨hc1, hf1⟩ := hg1.cells
            have hz1 := hg1.size
            (try simp at hz1); (try have hl1_0_0 : w.heap.size < w1.heap.size := by omega); (try have hm1_0_0 : w.heap.size ≤ w1.heap.size := by omega); (try have hl1_0_1 : w.heap.size + 1 < w1.heap.size := by omega); (try have hl1_0_2 : w.heap.size + 2 < w1.heap.size := by omega)
            go_wp2
            go_roundw
            case rel => exact ⟨kk + 1, by omega, by go_num, hV, (by repeat (first | with_reducible exact Gr.refl _ | with_reducible assumption | refine Gr.setCell ?_ (by first | omega | (simp; done) | (simp; omega)) _ | refine Gr.alloc ?_ _ | refine Gr.drew ?_ | refine Gr.drewN ?_ _ | refine Gr.trans ?_ (by with_reducible assumption)))⟩
            case measure => simp [RowKit.intOf]; omega
          · have hV : Hid (R = false) := by
              rw [← hd]
              show _ = _
              exact decide_eq_false (fun h => d3 (cAbs_cons.1 h).1.2.2)
            rw [decide_eq_false d3] at HL
            clear hd hno hnb hl1 hl2 d1 d2 d3 oka okb
            go_wp2
            refine wp_region_gr (by kernel_rfl) (by kernel_rfl) (fun hq1 hq2 => ?_)
            repeat (first | go_big_quiet_skip | (go_big_quiet_want; go_big_quiet_op; first | go_big_quiet_on | (apply Exists.intro; refine ⟨fun _ => ?_, ?_⟩; (· ((go_at_call 7; exact gr_call (HL.out _ (GW.h _))))); go_big_quiet_on)))
            refine wpQuiet_nil ?_
            clear hq1 hq2
            rintro w1 ⟨⟨_, hg1⟩, rfl⟩
            obtain ⟨hc1, hf1⟩ := hg1.cells
            have hz1 := hg1.size
            (try simp at hz1); (try have hl1_0_0 : w.heap.size < w1.heap.size := by omega); (try have hm1_0_0 : w.heap.size ≤ w1.heap.size := by omega); (try have hl1_0_1 : w.heap.size + 1 < w1.heap.size := by omega); (try have hl1_0_2 : w.heap.size + 2 < w1.heap.size := by omega)
            go_wp2
            go_ret
            exact ⟨by rw [hV.out]; rfl, (by repeat (first | with_reducible exact Gr.refl _ | with_reducible assumption | refine Gr.setCell ?_ (by first | omega | (simp; done) | (simp; omega)) _ | refine Gr.alloc ?_ _ | refine Gr.drew ?_ | refine Gr.drewN ?_ _ | refine Gr.trans ?_ (by with_reducible assumption)))⟩
        · have hV : Hid (R = false) := by
            rw [← hd]
            show _ = _
            exact decide_eq_false (fun h => d2 (cAbs_cons.1 h).1.2.1)
          have r1 : (sa.f != sb.f) = false := by simp [d1]
          have r2 : (sa.t != sb.t) = true := by simpa using d2
          clear hd hno hnb hl1 hl2 d1 d2 oka okb HL
          go_wp2
          refine wp_region_gr (by kernel_rfl) (by kernel_rfl) (fun hq1 hq2 => ?_)
          repeat (first | go_big_quiet_skip | (go_big_quiet_want; go_big_quiet_op; first | go_big_quiet_on | (apply Exists.intro; refine ⟨fun _ => ?_, ?_⟩; (· (fail)); go_big_quiet_on)))
          refine wpQuiet_nil ?_
          clear hq1 hq2
          rintro w1 ⟨⟨_, hg1⟩, rfl⟩
          obtain ⟨hc1, hf1⟩ := hg1.cells
          have hz1 := hg1.size
          (try simp at hz1); (try have hl1_0_0 : w.heap.size < w1.heap.size := by omega); (try have hm1_0_0 : w.heap.size ≤ w1.heap.size := by omega); (try have hl1_0_1 : w.heap.size + 1 < w1.heap.size := by omega); (try have hl1_0_2 : w.heap.size + 2 < w1.heap.size := by omega)
          go_wp2
          go_ret
          exact ⟨by rw [hV.out]; rfl, (by repeat (first | with_reducible exact Gr.refl _ | with_reducible assumption | refine Gr.setCell ?_ (by first | omega | (simp; done) | (simp; omega)) _ | refine Gr.alloc ?_ _ | refine Gr.drew ?_ | refine Gr.drewN ?_ _ | refine Gr.trans ?_ (by with_reducible assumption)))⟩
      · have hV : Hid (R = false) := by
          rw [← hd]
          show _ = _
          exact decide_eq_false (fun h => d1 (cAbs_cons.1 h).1.1)
        have r1 : (sa.f != sb.f) = true := by simpa using d1
        clear hd hno hnb hl1 hl2 d1 oka okb HL
        go_wp2
        refine wp_region_gr (by kernel_rfl) (by kernel_rfl) (fun hq1 hq2 => ?_)
        repeat (first | go_big_quiet_skip | (go_big_quiet_want; go_big_quiet_op; first | go_big_quiet_on | (apply Exists.intro; refine ⟨fun _ => ?_, ?_⟩; (· (fail)); go_big_quiet_on)))
        refine wpQuiet_nil ?_
        clear hq1 hq2
        rintro w1 ⟨⟨_, hg1⟩, rfl⟩
        obtain ⟨hc1, hf1⟩ := hg1.cells
        have hz1 := hg1.size
        (try simp at hz1); (try have hl1_0_0 : w.heap.size < w1.heap.size := by omega); (try have hm1_0_0 : w.heap.size ≤ w1.heap.size := by omega); (try have hl1_0_1 : w.heap.size + 1 < w1.heap.size := by omega); (try have hl1_0_2 : w.heap.size + 2 < w1.heap.size := by omega)
        go_wp2
        go_ret
        exact ⟨by rw [hV.out]; rfl, (by repeat (first | with_reducible exact Gr.refl _ | with_reducible assumption | refine Gr.setCell ?_ (by first | omega | (simp; done) | (simp; omega)) _ | refine Gr.alloc ?_ _ | refine Gr.drew ?_ | refine Gr.drewN ?_ _ | refine Gr.trans ?_ (by with_reducible assumption)))⟩
    · have q6 : decide (kk < xs.length) = false := decide_eq_false c1
      have hV : Hid (R = true) := by
        have hd := hno.out
        have := hnb.out
        rw [List.drop_of_length_le (by omega), List.drop_of_length_le (by omega)] at hd
        rw [← hd]
        rfl
      clear hno ha1 ha2 hcg hfg hA hB
      go_wp2
      go_ret
      exact ⟨by rw [hV.out]; rfl, (by repeat (first | with_reducible exact Gr.refl _ | with_reducible assumption | refine Gr.setCell ?_ (by first | omega | (simp; done) | (simp; omega)) _ | refine Gr.alloc ?_ _ | refine Gr.drew ?_ | refine Gr.drewN ?_ _ | refine Gr.trans ?_ (by with_reducible assumption)))⟩
end Go.Proofs.YthadhmhbbfjomaaGreatDoor

/-
  Plain law: what a cut leaves of a list of captions.
  Conditions: none.
-/
namespace Go.Proofs.YthadhmhbbfjomaaGreatDoor

abbrev AC := Int × Int × List ByteArray
/-- the captions of the frames from a to b - 1 -/
def cutA (a b : Int) : List AC → List AC
  | [] => []
  | (f, t, ss) :: l => if max f a < min t b then (max f a - a, min t b - a, ss) :: cutA a b l else cutA a b l
theorem cutA_append (a b : Int) (x y : List AC) : cutA a b (x ++ y) = cutA a b x ++ cutA a b y := by
  induction x with
  | nil => rfl
  | cons c x ih =>
    obtain ⟨f, t, ss⟩ := c
    simp only [List.cons_append, cutA]
    split
    · rw [ih]; rfl
    · exact ih
theorem cutA_snoc (a b : Int) (x : List AC) (f t : Int) (ss : List ByteArray) : cutA a b (x ++ [(f, t, ss)]) = if max f a < min t b then cutA a b x ++ [(max f a - a, min t b - a, ss)] else cutA a b x := by
  rw [cutA_append]
  simp only [cutA]
  split
  · rfl
  · simp
def cutGood (cs : List Cu) (a b : Int) : Prop := vCues cs = true ∧ 0 ≤ a ∧ a ≤ b ∧ b ≤ 2147483647
/-- what is known of the captions of a valid list -/
theorem vCu_bounds {c : Cu} (h : vCu c = true) : 0 ≤ c.f ∧ c.f < c.t ∧ c.t ≤ 2147483647 ∧ 1 ≤ c.ss.length ∧ c.ss.length ≤ 4 ∧ c.ss.all vLine = true := by
  unfold vCu vCue at h
  simp only [Bool.and_eq_true, decide_eq_true_eq] at h
  exact ⟨h.1.1, h.1.2.1, h.1.2.2.1, h.1.2.2.2.1, h.1.2.2.2.2, h.2⟩
theorem vCues_mem {cs : List Cu} (h : vCues cs = true) {c : Cu} (hc : c ∈ cs) : vCu c = true := List.all_eq_true.1 h c hc
end Go.Proofs.YthadhmhbbfjomaaGreatDoor
