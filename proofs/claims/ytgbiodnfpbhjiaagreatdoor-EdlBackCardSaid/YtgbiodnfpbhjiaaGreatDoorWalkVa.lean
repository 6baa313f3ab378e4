
import Derived.Test.YtgbiodnfpbhjiaaGreatDoorMem
import Derived.Test.YtgbiodnfpbhjiaaGreatDoorChecked
import Derived.WalkSpells
import Derived.WalkLawsBesides
import Derived.Test.YtgbiodnfpbhjiaaGreatDoorKit
/-
  Contracts: which lines of text are valid, of package timeline and of the reference.
  Conditions: the string has at most 2^47 bytes.
-/
namespace Go.Proofs.YtgbiodnfpbhjiaaGreatDoor
open Go.RowKit Go.Lib
set_option linter.unusedSimpArgs false
set_option linter.unusedVariables false

def okB (b : UInt8) : Bool := decide (32 ≤ b.toNat) && decide (b.toNat ≤ 126)
/-- a valid line -/
def vLine (s : ByteArray) : Bool := decide (1 ≤ s.size) && decide (s.size ≤ 64) && s.data.toList.all okB

set_option maxHeartbeats 1000000 in
theorem validLine_any (s : ByteArray) (w : World) (hs : s.size ≤ 140737488355328) :
    Calls Tryz.prog 127 #[.string s] w fun e w' => e = .returned (.bool (vLine s)) ∧ Gr w w' := by
  obtain ⟨R, hR⟩ : ∃ R, s.data.toList.all okB = R := ⟨_, rfl⟩
  unfold vLine
  rw [hR]
  have HS : Hid ((s.data.toList.drop 0).all okB = R) := hR
  clear hR
  by_cases h1 : s.size < 1
  · have q1 : decide (s.size < 1) = true := decide_eq_true h1
    go_enter Tryz.func127, Tryz.ntmps127
    go_wp2
    go_ret
    exact ⟨by rw [decide_eq_false (by omega : ¬ 1 ≤ s.size)]; rfl, (by repeat (first | with_reducible exact Gr.refl _ | with_reducible assumption | refine Gr.setCell ?_ (by first | omega | (simp; done) | (simp; omega)) _ | refine Gr.alloc ?_ _ | refine Gr.drew ?_ | refine Gr.drewN ?_ _ | refine Gr.trans ?_ (by with_reducible assumption)))⟩
  by_cases h2 : 64 < s.size
  · have q1 : decide (s.size < 1) = false := decide_eq_false h1
    have q2 : decide (64 < s.size) = true := decide_eq_true h2
    go_enter Tryz.func127, Tryz.ntmps127
    go_wp2
    go_ret
    exact ⟨by rw [decide_eq_false (by omega : ¬ s.size ≤ 64)]; simp, (by repeat (first | with_reducible exact Gr.refl _ | with_reducible assumption | refine Gr.setCell ?_ (by first | omega | (simp; done) | (simp; omega)) _ | refine Gr.alloc ?_ _ | refine Gr.drew ?_ | refine Gr.drewN ?_ _ | refine Gr.trans ?_ (by with_reducible assumption)))⟩
  have q1 : decide (s.size < 1) = false := decide_eq_false h1
  have q2 : decide (64 < s.size) = false := decide_eq_false h2
  rw [decide_eq_true (by omega : 1 ≤ s.size), decide_eq_true (by omega : s.size ≤ 64)]
  go_enter Tryz.func127, Tryz.ntmps127
  go_wp2
  go_loop [3, 14] (fun _ k => ∃ kk : Nat, kk ≤ s.size ∧ k = .int .i64 kk ∧ Hid ((s.data.toList.drop kk).all okB = R)) (fun _ k => s.size - (RowKit.intOf k).toNat)
  case atStart => exact ⟨0, Nat.zero_le _, rfl, HS⟩
  case round =>
    obtain ⟨kk, h3, rfl, hno⟩ := hrel
    clear HS
    by_cases c1 : kk < s.size
    · have q3 : decide (kk < s.size) = true := decide_eq_true c1
      have hd := hno.out
      rw [ba_drop s kk c1, List.all_cons] at hd
      by_cases c2 : (s[kk].toNat : Int) < 32
      · have q4 : decide ((s[kk].toNat : Int) < 32) = true := decide_eq_true c2
        have hv : Hid (R = false) := by
          have : okB s[kk] = false := by unfold okB; rw [decide_eq_false (by omega)]; rfl
          rw [this] at hd
          exact hd.symm
        clear hd hno
        go_wp2
        go_ret
        exact ⟨by rw [hv.out]; rfl, (by repeat (first | with_reducible exact Gr.refl _ | with_reducible assumption | refine Gr.setCell ?_ (by first | omega | (simp; done) | (simp; omega)) _ | refine Gr.alloc ?_ _ | refine Gr.drew ?_ | refine Gr.drewN ?_ _ | refine Gr.trans ?_ (by with_reducible assumption)))⟩
      by_cases c3 : 126 < (s[kk].toNat : Int)
      · have q4 : decide ((s[kk].toNat : Int) < 32) = false := decide_eq_false c2
        have q5 : decide (126 < (s[kk].toNat : Int)) = true := decide_eq_true c3
        have hv : Hid (R = false) := by
          have : okB s[kk] = false := by unfold okB; rw [decide_eq_false (by omega : ¬ s[kk].toNat ≤ 126)]; simp
          rw [this] at hd
          exact hd.symm
        clear hd hno
        go_wp2
        go_ret
        exact ⟨by rw [hv.out]; rfl, (by repeat (first | with_reducible exact Gr.refl _ | with_reducible assumption | refine Gr.setCell ?_ (by first | omega | (simp; done) | (simp; omega)) _ | refine Gr.alloc ?_ _ | refine Gr.drew ?_ | refine Gr.drewN ?_ _ | refine Gr.trans ?_ (by with_reducible assumption)))⟩
      have q4 : decide ((s[kk].toNat : Int) < 32) = false := decide_eq_false c2
      have q5 : decide (126 < (s[kk].toNat : Int)) = false := decide_eq_false c3
      have hv : Hid ((s.data.toList.drop (kk + 1)).all okB = R) := by
        have : okB s[kk] = true := by unfold okB; rw [decide_eq_true (by omega), decide_eq_true (by omega)]; rfl
        rw [this] at hd
        exact hd
      clear hd hno
      go_wp2
      exact ⟨⟨kk + 1, by omega, by go_num, hv⟩, by simp [RowKit.intOf]; omega⟩
    · have q3 : decide (kk < s.size) = false := decide_eq_false c1
      have hv : Hid (R = true) := by
        have hd := hno.out
        rw [ba_drop_end s kk (by omega)] at hd
        exact hd.symm
      clear hno
      go_wp2
      go_ret
      exact ⟨by rw [hv.out]; rfl, (by repeat (first | with_reducible exact Gr.refl _ | with_reducible assumption | refine Gr.setCell ?_ (by first | omega | (simp; done) | (simp; omega)) _ | refine Gr.alloc ?_ _ | refine Gr.drew ?_ | refine Gr.drewN ?_ _ | refine Gr.trans ?_ (by with_reducible assumption)))⟩

set_option maxHeartbeats 1000000 in
theorem rvalidLine_any (s : ByteArray) (w : World) (hs : s.size ≤ 140737488355328) :
    Calls Tryz.prog 39 #[.string s] w fun e w' => e = .returned (.bool (vLine s)) ∧ Gr w w' := by
  obtain ⟨R, hR⟩ : ∃ R, s.data.toList.all okB = R := ⟨_, rfl⟩
  unfold vLine
  rw [hR]
  have HS : Hid ((s.data.toList.drop 0).all okB = R) := hR
  clear hR
  go_enter Tryz.func39, Tryz.ntmps39
  go_wp2
  go_loop [3] (fun k => ∃ kk : Nat, kk ≤ s.size ∧ k = .int .i64 kk ∧ Hid ((s.data.toList.drop kk).all okB = R)) (fun k => s.size - (RowKit.intOf k).toNat)
  case atStart => exact ⟨0, Nat.zero_le _, rfl, HS⟩
  case round =>
    obtain ⟨kk, h3, rfl, hno⟩ := hrel
    clear HS
    by_cases c1 : kk < s.size
    · have q3 : decide (kk < s.size) = true := decide_eq_true c1
      have hd := hno.out
      rw [ba_drop s kk c1, List.all_cons] at hd
      by_cases c2 : (s[kk].toNat : Int) < 32
      · have q4 : decide ((s[kk].toNat : Int) < 32) = true := decide_eq_true c2
        have hv : Hid (R = false) := by
          have : okB s[kk] = false := by unfold okB; rw [decide_eq_false (by omega)]; rfl
          rw [this] at hd
          exact hd.symm
        clear hd hno
        go_wp2
        go_ret
        exact ⟨by rw [hv.out]; simp, (by repeat (first | with_reducible exact Gr.refl _ | with_reducible assumption | refine Gr.setCell ?_ (by first | omega | (simp; done) | (simp; omega)) _ | refine Gr.alloc ?_ _ | refine Gr.drew ?_ | refine Gr.drewN ?_ _ | refine Gr.trans ?_ (by with_reducible assumption)))⟩
      by_cases c3 : 126 < (s[kk].toNat : Int)
      · have q4 : decide ((s[kk].toNat : Int) < 32) = false := decide_eq_false c2
        have q5 : decide (126 < (s[kk].toNat : Int)) = true := decide_eq_true c3
        have hv : Hid (R = false) := by
          have : okB s[kk] = false := by unfold okB; rw [decide_eq_false (by omega : ¬ s[kk].toNat ≤ 126)]; simp
          rw [this] at hd
          exact hd.symm
        clear hd hno
        go_wp2
        go_ret
        exact ⟨by rw [hv.out]; simp, (by repeat (first | with_reducible exact Gr.refl _ | with_reducible assumption | refine Gr.setCell ?_ (by first | omega | (simp; done) | (simp; omega)) _ | refine Gr.alloc ?_ _ | refine Gr.drew ?_ | refine Gr.drewN ?_ _ | refine Gr.trans ?_ (by with_reducible assumption)))⟩
      have q4 : decide ((s[kk].toNat : Int) < 32) = false := decide_eq_false c2
      have q5 : decide (126 < (s[kk].toNat : Int)) = false := decide_eq_false c3
      have hv : Hid ((s.data.toList.drop (kk + 1)).all okB = R) := by
        have : okB s[kk] = true := by unfold okB; rw [decide_eq_true (by omega), decide_eq_true (by omega)]; rfl
        rw [this] at hd
        exact hd
      clear hd hno
      go_wp2
      exact ⟨⟨kk + 1, by omega, by go_num, hv⟩, by simp [RowKit.intOf]; omega⟩
    · have q3 : decide (kk < s.size) = false := decide_eq_false c1
      have hv : Hid (R = true) := by
        have hd := hno.out
        rw [ba_drop_end s kk (by omega)] at hd
        exact hd.symm
      clear hno
      by_cases g1 : s.size < 1
      · have p1 : decide (1 ≤ s.size) = false := decide_eq_false (by omega)
        go_wp2
        go_ret
        exact ⟨by simp [p1], (by repeat (first | with_reducible exact Gr.refl _ | with_reducible assumption | refine Gr.setCell ?_ (by first | omega | (simp; done) | (simp; omega)) _ | refine Gr.alloc ?_ _ | refine Gr.drew ?_ | refine Gr.drewN ?_ _ | refine Gr.trans ?_ (by with_reducible assumption)))⟩
      · have p1 : decide (1 ≤ s.size) = true := decide_eq_true (by omega)
        by_cases g2 : s.size ≤ 64
        · have p2 : decide (s.size ≤ 64) = true := decide_eq_true (by omega)
          go_wp2
          go_ret
          exact ⟨by rw [hv.out]; simp [p1, p2]; omega, (by repeat (first | with_reducible exact Gr.refl _ | with_reducible assumption | refine Gr.setCell ?_ (by first | omega | (simp; done) | (simp; omega)) _ | refine Gr.alloc ?_ _ | refine Gr.drew ?_ | refine Gr.drewN ?_ _ | refine Gr.trans ?_ (by with_reducible assumption)))⟩
        · have p2 : decide (s.size ≤ 64) = false := decide_eq_false (by omega)
          go_wp2
          go_ret
          exact ⟨by simp [p1, p2]; omega, (by repeat (first | with_reducible exact Gr.refl _ | with_reducible assumption | refine Gr.setCell ?_ (by first | omega | (simp; done) | (simp; omega)) _ | refine Gr.alloc ?_ _ | refine Gr.drew ?_ | refine Gr.drewN ?_ _ | refine Gr.trans ?_ (by with_reducible assumption)))⟩
end Go.Proofs.YtgbiodnfpbhjiaaGreatDoor

/-
  Contracts: which captions are valid, of package timeline and of the reference.
  Conditions: the lines lie in memory; each has at most 2^47 bytes.
-/
namespace Go.Proofs.YtgbiodnfpbhjiaaGreatDoor
open Go.RowKit Go.Lib
set_option linter.unusedSimpArgs false
set_option linter.unusedVariables false

/-- a valid caption -/
def vCue (f t : Int) (ss : List ByteArray) : Bool := decide (0 ≤ f ∧ f < t ∧ t ≤ 2147483647 ∧ 1 ≤ ss.length ∧ ss.length ≤ 4) && ss.all vLine
theorem vCue_no {f t : Int} {ss : List ByteArray} (h : ¬ (0 ≤ f ∧ f < t ∧ t ≤ 2147483647 ∧ 1 ≤ ss.length ∧ ss.length ≤ 4)) : vCue f t ss = false := by unfold vCue; rw [decide_eq_false h]; rfl
theorem vCue_yes {f t : Int} {ss : List ByteArray} (h : 0 ≤ f ∧ f < t ∧ t ≤ 2147483647 ∧ 1 ≤ ss.length ∧ ss.length ≤ 4) : vCue f t ss = ss.all vLine := by unfold vCue; rw [decide_eq_true h]; rfl

set_option maxHeartbeats 2000000 in
theorem validCue_any (f t : Int) (lv : Value) (ss : List ByteArray) (w : World) (hf : -9223372036854775808 ≤ f ∧ f ≤ 9223372036854775807) (ht : -9223372036854775808 ≤ t ∧ t ≤ 9223372036854775807)
    (hS : StrsR w lv ss) (hz : ∀ s ∈ ss, s.size ≤ 140737488355328) (hl : ss.length ≤ 140737488355328) :
    Calls Tryz.prog 222 #[.agg #[.int .i64 f, .int .i64 t, lv]] w fun e w' => e = .returned (.bool (vCue f t ss)) ∧ Gr w w' := by
  obtain ⟨a, cap, rfl, ha⟩ := hS.shape
  clear hS
  by_cases g1 : f < 0
  · rw [vCue_no (by omega)]
    have q1 : decide (f < 0) = true := decide_eq_true g1
    go_enter Tryz.func222, Tryz.ntmps222
    go_wp2
    go_ret
    exact ⟨rfl, (by repeat (first | with_reducible exact Gr.refl _ | with_reducible assumption | refine Gr.setCell ?_ (by first | omega | (simp; done) | (simp; omega)) _ | refine Gr.alloc ?_ _ | refine Gr.drew ?_ | refine Gr.drewN ?_ _ | refine Gr.trans ?_ (by with_reducible assumption)))⟩
  have q1 : decide (f < 0) = false := decide_eq_false g1
  by_cases g2 : t ≤ f
  · rw [vCue_no (by omega)]
    have q2 : decide (t ≤ f) = true := decide_eq_true g2
    go_enter Tryz.func222, Tryz.ntmps222
    go_wp2
    go_ret
    exact ⟨rfl, (by repeat (first | with_reducible exact Gr.refl _ | with_reducible assumption | refine Gr.setCell ?_ (by first | omega | (simp; done) | (simp; omega)) _ | refine Gr.alloc ?_ _ | refine Gr.drew ?_ | refine Gr.drewN ?_ _ | refine Gr.trans ?_ (by with_reducible assumption)))⟩
  have q2 : decide (t ≤ f) = false := decide_eq_false g2
  by_cases g3 : 2147483647 < t
  · rw [vCue_no (by omega)]
    have q3 : decide (2147483647 < t) = true := decide_eq_true g3
    go_enter Tryz.func222, Tryz.ntmps222
    go_wp2
    go_ret
    exact ⟨rfl, (by repeat (first | with_reducible exact Gr.refl _ | with_reducible assumption | refine Gr.setCell ?_ (by first | omega | (simp; done) | (simp; omega)) _ | refine Gr.alloc ?_ _ | refine Gr.drew ?_ | refine Gr.drewN ?_ _ | refine Gr.trans ?_ (by with_reducible assumption)))⟩
  have q3 : decide (2147483647 < t) = false := decide_eq_false g3
  by_cases g4 : ss.length < 1
  · rw [vCue_no (by omega)]
    have q4 : decide (ss.length < 1) = true := decide_eq_true g4
    go_enter Tryz.func222, Tryz.ntmps222
    go_wp2
    go_ret
    exact ⟨rfl, (by repeat (first | with_reducible exact Gr.refl _ | with_reducible assumption | refine Gr.setCell ?_ (by first | omega | (simp; done) | (simp; omega)) _ | refine Gr.alloc ?_ _ | refine Gr.drew ?_ | refine Gr.drewN ?_ _ | refine Gr.trans ?_ (by with_reducible assumption)))⟩
  have q4 : decide (ss.length < 1) = false := decide_eq_false g4
  by_cases g5 : 4 < ss.length
  · rw [vCue_no (by omega)]
    have q5 : decide (4 < ss.length) = true := decide_eq_true g5
    go_enter Tryz.func222, Tryz.ntmps222
    go_wp2
    go_ret
    exact ⟨rfl, (by repeat (first | with_reducible exact Gr.refl _ | with_reducible assumption | refine Gr.setCell ?_ (by first | omega | (simp; done) | (simp; omega)) _ | refine Gr.alloc ?_ _ | refine Gr.drew ?_ | refine Gr.drewN ?_ _ | refine Gr.trans ?_ (by with_reducible assumption)))⟩
  have q5 : decide (4 < ss.length) = false := decide_eq_false g5
  rw [vCue_yes (by omega)]
  rcases ha with ha | ⟨b, o, rfl, hb, hc⟩
  · omega
  obtain ⟨R, hR⟩ : ∃ R, ss.all vLine = R := ⟨_, rfl⟩
  rw [hR]
  have HS : Hid ((ss.drop 0).all vLine = R) := hR
  clear hR
  have hc := Lib.hid hc
  go_enter Tryz.func222, Tryz.ntmps222
  go_wp2
  go_loopw [4, 35] (fun _ k wr => ∃ kk : Nat, kk ≤ ss.length ∧ k = .int .i64 kk ∧ Hid ((ss.drop kk).all vLine = R) ∧ Gr w wr) (fun _ k _ => ss.length - (RowKit.intOf k).toNat)
  case atStart => exact ⟨0, Nat.zero_le _, rfl, HS, (by repeat (first | with_reducible exact Gr.refl _ | with_reducible assumption | refine Gr.setCell ?_ (by first | omega | (simp; done) | (simp; omega)) _ | refine Gr.alloc ?_ _ | refine Gr.drew ?_ | refine Gr.drewN ?_ _ | refine Gr.trans ?_ (by with_reducible assumption)))⟩
  case round =>
    obtain ⟨kk, h3, rfl, hno, hg⟩ := hrel
    clear HS
    obtain ⟨hcg, hfg⟩ := hg.cells
    by_cases c1 : kk < ss.length
    · have q6 : decide (kk < ss.length) = true := decide_eq_true c1
      have hd := hno.out
      rw [List.drop_eq_getElem_cons c1, List.all_cons] at hd
      have hcell : wr.cell? ⟨b, o + kk, none⟩ = some (.string ss[kk]) := (hcg b _ hb).trans (hc.out kk c1)
      have hzk := hz ss[kk] (List.getElem_mem c1)
      generalize ss[kk] = sk at hd hcell hzk
      cases hv : vLine sk with
      | false =>
        rw [hv] at hd
        have hV : Hid (R = false) := hd.symm
        have HL : Hid (∀ w, Calls Tryz.prog 127 #[.string sk] w fun e w' => e = .returned (.bool false) ∧ Gr w w') := fun w => by rw [← hv]; exact validLine_any sk w hzk
        clear hd hno hv hz hc hcg hfg
        go_wp2_with (go_at_call 127; with_reducible refine (HL.out _).mono ?_; rintro e w1 ⟨rfl, hg1⟩)
        go_ret
        exact ⟨by rw [hV.out]; rfl, (by repeat (first | with_reducible exact Gr.refl _ | with_reducible assumption | refine Gr.setCell ?_ (by first | omega | (simp; done) | (simp; omega)) _ | refine Gr.alloc ?_ _ | refine Gr.drew ?_ | refine Gr.drewN ?_ _ | refine Gr.trans ?_ (by with_reducible assumption)))⟩
      | true =>
        rw [hv] at hd
        have hV : Hid ((ss.drop (kk + 1)).all vLine = R) := hd
        have HL : Hid (∀ w, Calls Tryz.prog 127 #[.string sk] w fun e w' => e = .returned (.bool true) ∧ Gr w w') := fun w => by rw [← hv]; exact validLine_any sk w hzk
        clear hd hno hv hz hc hcg hfg
        go_wp2_with (go_at_call 127; with_reducible refine (HL.out _).mono ?_; rintro e w1 ⟨rfl, hg1⟩)
        go_roundw
        case rel => exact ⟨kk + 1, by omega, by go_num, hV, (by repeat (first | with_reducible exact Gr.refl _ | with_reducible assumption | refine Gr.setCell ?_ (by first | omega | (simp; done) | (simp; omega)) _ | refine Gr.alloc ?_ _ | refine Gr.drew ?_ | refine Gr.drewN ?_ _ | refine Gr.trans ?_ (by with_reducible assumption)))⟩
        case measure => simp [RowKit.intOf]; omega
    · have q6 : decide (kk < ss.length) = false := decide_eq_false c1
      have hV : Hid (R = true) := by
        have hd := hno.out
        rw [List.drop_of_length_le (by omega)] at hd
        exact hd.symm
      clear hno hc hz
      go_wp2
      go_ret
      exact ⟨by rw [hV.out]; rfl, (by repeat (first | with_reducible exact Gr.refl _ | with_reducible assumption | refine Gr.setCell ?_ (by first | omega | (simp; done) | (simp; omega)) _ | refine Gr.alloc ?_ _ | refine Gr.drew ?_ | refine Gr.drewN ?_ _ | refine Gr.trans ?_ (by with_reducible assumption)))⟩

end Go.Proofs.YtgbiodnfpbhjiaaGreatDoor

/-
  Contracts: lists of captions: valid or not, of package captions and of the reference; lists of strings that are equal.
  Conditions: the lists lie in memory and are of a size that memory has.
-/
namespace Go.Proofs.YtgbiodnfpbhjiaaGreatDoor
open Go.RowKit Go.Lib
set_option linter.unusedSimpArgs false
set_option linter.unusedVariables false

/-- what is known of a caption that lies in memory -/
structure CuOk (c : Cu) : Prop where
  f1 : -9223372036854775808 ≤ c.f
  f2 : c.f ≤ 9223372036854775807
  t1 : -9223372036854775808 ≤ c.t
  t2 : c.t ≤ 9223372036854775807
  n : c.ss.length ≤ 140737488355328
  s : ∀ s ∈ c.ss, s.size ≤ 140737488355328
/-- a list of captions in memory -/
structure Cues (W : World) (v : Value) (cs : List Cu) : Prop where
  at_ : CuesR W v cs
  ok : ∀ c ∈ cs, CuOk c
  n : cs.length ≤ 3518437208883
theorem Cues.gr {W w : World} {v : Value} {cs : List Cu} (hg : Gr W w) (h : Cues W v cs) : Cues w v cs := ⟨h.at_.gr hg, h.ok, h.n⟩
def vCu (c : Cu) : Bool := vCue c.f c.t c.ss
def vCues (cs : List Cu) : Bool := cs.all vCu

end Go.Proofs.YtgbiodnfpbhjiaaGreatDoor

/-
  Contracts: lists of strings that are equal; lists of captions that are equal.
  Conditions: the lists lie in memory and are of a size that memory has.
-/
namespace Go.Proofs.YtgbiodnfpbhjiaaGreatDoor
open Go.RowKit Go.Lib
set_option linter.unusedSimpArgs false
set_option linter.unusedVariables false

def cAbs (c : Cu) : Int × Int × List ByteArray := (c.f, c.t, c.ss)
theorem cAbs_cons {a b : Cu} {x y : List Cu} : ((a :: x).map cAbs = (b :: y).map cAbs) ↔ ((a.f = b.f ∧ a.t = b.t ∧ a.ss = b.ss) ∧ x.map cAbs = y.map cAbs) := by
  simp only [List.map_cons, List.cons.injEq, cAbs, Prod.mk.injEq]
end Go.Proofs.YtgbiodnfpbhjiaaGreatDoor

/-
  Plain law: what a cut leaves of a list of captions.
  Conditions: none.
-/
namespace Go.Proofs.YtgbiodnfpbhjiaaGreatDoor

abbrev AC := Int × Int × List ByteArray
/-- the captions of the frames from a to b - 1 -/
def cutA (a b : Int) : List AC → List AC
  | [] => []
  | (f, t, ss) :: l => if max f a < min t b then (max f a - a, min t b - a, ss) :: cutA a b l else cutA a b l
theorem cutA_append (a b : Int) (x y : List AC) : cutA a b (x ++ y) = cutA a b x ++ cutA a b y := by
  induction x with
  | nil => rfl
  | cons c x ih =>
    obtain ⟨f, t, ss⟩ := c
    simp only [List.cons_append, cutA]
    split
    · rw [ih]; rfl
    · exact ih
theorem cutA_snoc (a b : Int) (x : List AC) (f t : Int) (ss : List ByteArray) : cutA a b (x ++ [(f, t, ss)]) = if max f a < min t b then cutA a b x ++ [(max f a - a, min t b - a, ss)] else cutA a b x := by
  rw [cutA_append]
  simp only [cutA]
  split
  · rfl
  · simp
def cutGood (cs : List Cu) (a b : Int) : Prop := vCues cs = true ∧ 0 ≤ a ∧ a ≤ b ∧ b ≤ 2147483647
/-- what is known of the captions of a valid list -/
theorem vCu_bounds {c : Cu} (h : vCu c = true) : 0 ≤ c.f ∧ c.f < c.t ∧ c.t ≤ 2147483647 ∧ 1 ≤ c.ss.length ∧ c.ss.length ≤ 4 ∧ c.ss.all vLine = true := by
  unfold vCu vCue at h
  simp only [Bool.and_eq_true, decide_eq_true_eq] at h
  exact ⟨h.1.1, h.1.2.1, h.1.2.2.1, h.1.2.2.2.1, h.1.2.2.2.2, h.2⟩
theorem vCues_mem {cs : List Cu} (h : vCues cs = true) {c : Cu} (hc : c ∈ cs) : vCu c = true := List.all_eq_true.1 h c hc
end Go.Proofs.YtgbiodnfpbhjiaaGreatDoor
