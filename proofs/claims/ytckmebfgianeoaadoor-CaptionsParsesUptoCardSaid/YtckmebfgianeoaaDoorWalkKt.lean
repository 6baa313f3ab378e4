/-
  Contracts of strings.Cut, and of digits and parseTime of package captions.
  Conditions: the string has fewer than 4,294,967,281 bytes; the variable of bytealg holds an int; the rate is suitable.
-/
import Derived.Test.YtckmebfgianeoaaDoorMathPa
namespace Go.Proofs.YtckmebfgianeoaaDoor
open Go.RowKit Go.Lib
set_option linter.unusedSimpArgs false
set_option linter.unusedVariables false

/-- the variable of bytealg holds an int -/
def Mx (w : World) : Prop := ∃ m, w.cell? ⟨3, 0, none⟩ = some (.int .i64 m)
theorem cell_lt {w : World} {b o : Nat} {v : Value} (h : w.cell? ⟨b, o, none⟩ = some v) : b < w.heap.size := by
  unfold World.cell? at h
  cases hb : w.heap[b]? with
  | none => simp [hb] at h
  | some x => exact (Array.getElem?_eq_some_iff.1 hb).1
theorem Mx.gr {W w : World} (hg : Gr W w) (h : Mx W) : Mx w := by
  obtain ⟨m, hm⟩ := h
  exact ⟨m, (hg.cells.1 _ _ (cell_lt hm)).trans hm⟩
theorem Mx.of_shaped {w : World} (h : w.ShapedOpen Tryd.prog) : Mx w := Tryd.laysM145.s1_3 w h
theorem cutk_any (s sep : ByteArray) (w : World) (hM : Mx w) (hs : s.size < 4294967281) :
    Calls Tryd.prog 81 #[.string s, .string sep] w fun e w' => e = .returned (.tuple #[.string ⟨(cut s.data.toList sep.data.toList).1.toArray⟩, .string ⟨(cut s.data.toList sep.data.toList).2.1.toArray⟩, .bool (cut s.data.toList sep.data.toList).2.2]) ∧ Gr w w' := by
  obtain ⟨m, hm⟩ := hM
  refine (Tryd.strings_Cut s sep m w hs hm).mono ?_
  rintro e w' ⟨h, n, rfl⟩
  exact ⟨h, (Gr.refl w).drewN n⟩
theorem cut_lens (s sep : List UInt8) : (cut s sep).1.length ≤ s.length ∧ (cut s sep).2.1.length ≤ s.length ∧ ((cut s sep).2.2 = true → 0 < sep.length → (cut s sep).2.1.length < s.length) := by
  unfold cut
  split
  · rename_i h
    have hr := index_room s sep h
    simp only [List.length_take, List.length_drop]
    refine ⟨by omega, by omega, fun _ h2 => by omega⟩
  · simp

theorem dgV_take {l : List UInt8} (h : l.all isDg = true) : dgV l = some (l.foldl dgF 0) := by unfold dgV; rw [if_pos h]
theorem dgV_bad {l : List UInt8} {x : UInt8} (h : x ∈ l) (hx : isDg x = false) : dgV l = none := by
  unfold dgV
  rw [if_neg]
  intro ha
  have := List.all_eq_true.1 ha x h
  rw [hx] at this
  cases this
set_option maxHeartbeats 1000000 in
theorem cdigits_any (s : ByteArray) (w : World) (hs : s.size ≤ 3) :
    Calls Tryd.prog 101 #[.string s] w fun e w' => e = .returned (.tuple #[.int .i64 ((dgV s.data.toList).getD 0), .bool (dgV s.data.toList).isSome]) ∧ Gr w w' := by
  obtain ⟨R, hR⟩ : ∃ R, dgV s.data.toList = R := ⟨_, rfl⟩
  rw [hR]
  have hR := Lib.hid hR
  go_enter Tryd.func101, Tryd.ntmps101
  go_wp2
  have HS : Hid ((s.data.toList.take 0).all isDg = true ∧ (0 : Int) = (s.data.toList.take 0).foldl dgF 0) := Lib.hid ⟨rfl, rfl⟩
  go_loopw [2, 7] (fun n i wr => ∃ (j : Nat) (x : Int), n = .int .i64 x ∧ i = .int .i64 j ∧ j ≤ s.size ∧ 0 ≤ x ∧ ((j = 0 ∧ x = 0) ∨ (j = 1 ∧ x ≤ 9) ∨ (j = 2 ∧ x ≤ 99) ∨ (j = 3 ∧ x ≤ 999)) ∧ Gr w wr ∧ Hid ((s.data.toList.take j).all isDg = true ∧ x = (s.data.toList.take j).foldl dgF 0)) (fun _ i _ => s.size - (RowKit.intOf i).toNat)
  case atStart => exact ⟨0, 0, rfl, rfl, Nat.zero_le _, by omega, .inl ⟨rfl, rfl⟩, Gr.refl _, HS⟩
  case round =>
    obtain ⟨j, x, rfl, rfl, hj, hx0, hx1, hg, hno⟩ := hrel
    clear HS
    by_cases c : j < s.size
    · have q : decide (j < s.size) = true := decide_eq_true c
      have hlt : j < s.data.toList.length := by rw [ba_len]; exact c
      have htk : s.data.toList.take (j + 1) = s.data.toList.take j ++ [s[j]] := (List.take_append_getElem hlt).symm
      have hmm : s[j] ∈ s.data.toList := List.getElem_mem hlt
      obtain ⟨b, hb⟩ : ∃ b, s[j] = b := ⟨_, rfl⟩
      rw [hb] at htk hmm
      have htk := Lib.hid htk
      by_cases c2 : isDg b = true
      · have c3 : 48 ≤ b.toNat ∧ b.toNat ≤ 57 := by unfold isDg at c2; simp only [Bool.and_eq_true, decide_eq_true_eq] at c2; exact c2
        have g1 : decide ((b.toNat : Int) < 48) = false := decide_eq_false (by omega)
        have g2 : decide (57 < (b.toNat : Int)) = false := decide_eq_false (by omega)
        have hV : Hid ((s.data.toList.take (j + 1)).all isDg = true ∧ 10 * x + ((b.toNat : Int) - 48) = (s.data.toList.take (j + 1)).foldl dgF 0) := by
          refine Lib.hid ⟨?_, ?_⟩
          · rw [htk.out, List.all_append, hno.out.1]; simp [c2]
          · rw [htk.out, List.foldl_append, ← hno.out.2]; rfl
        clear hno hmm
        go_wp2
        go_roundw
        case rel => exact ⟨j + 1, _, rfl, by go_num, by omega, by omega, by omega, hg, hV⟩
        case measure => simp [RowKit.intOf]; omega
      · have c2 : isDg b = false := by cases h : isDg b with
          | false => rfl
          | true => exact absurd h c2
        have hN : Hid (R = none) := by refine Lib.hid ?_; rw [← hR.out]; exact dgV_bad hmm c2
        have c4 : b.toNat < 48 ∨ (48 ≤ b.toNat ∧ 57 < b.toNat) := by
          unfold isDg at c2
          rcases Nat.lt_or_ge b.toNat 48 with h | h
          · exact .inl h
          · right
            refine ⟨h, ?_⟩
            rw [decide_eq_true h, Bool.true_and] at c2
            have := of_decide_eq_false c2
            omega
        clear hno hmm hR
        have hN2 := hN.out
        subst hN2
        rcases c4 with c5 | ⟨c5, c6⟩
        · have g1 : decide ((b.toNat : Int) < 48) = true := decide_eq_true (by omega)
          go_wp2
          go_ret2
          exact ⟨rfl, hg⟩
        · have g1 : decide ((b.toNat : Int) < 48) = false := decide_eq_false (by omega)
          have g2 : decide (57 < (b.toNat : Int)) = true := decide_eq_true (by omega)
          go_wp2
          go_ret2
          exact ⟨rfl, hg⟩
    · have q : decide (j < s.size) = false := decide_eq_false c
      have hN : R = some x := by
        have h := hno.out
        rw [List.take_of_length_le (by rw [ba_len]; omega)] at h
        rw [← hR.out, dgV_take h.1, ← h.2]
      clear hR hno
      subst hN
      go_wp2
      go_ret2
      exact ⟨rfl, hg⟩
end Go.Proofs.YtckmebfgianeoaaDoor
