/-
  Contract of words of the reference.
  Conditions: none.
-/
import Derived.Test.YtckmebfgianeoaaDoorMathX
import Derived.Test.YtckmebfgianeoaaDoorWalkCu
namespace Go.Proofs.YtckmebfgianeoaaDoor
open Go.RowKit Go.Lib
set_option linter.unusedSimpArgs false
set_option linter.unusedVariables false

def toBa (l : List UInt8) : ByteArray := ⟨l.toArray⟩
theorem toBa_ex (s : ByteArray) (a b : Nat) : toBa ((s.data.toList.take b).drop a) = s.extract a b := by
  apply ba_ext
  rw [ba_ex]
  unfold toBa
  simp [List.drop_take]
/-- the words of a line -/
def wordsP (s : ByteArray) : List ByteArray := (wordsG [] s.data.toList).map toBa
theorem wordsG_len : ∀ (c l : List UInt8), (wordsG c l).length ≤ l.length + 1
  | c, [] => by rw [wordsG]; split <;> simp
  | c, x :: r => by
    have h1 := wordsG_len [] r
    have h2 := wordsG_len (c ++ [x]) r
    rw [wordsG]
    split
    · split <;> simp only [List.length_cons] <;> omega
    · simp only [List.length_cons]; omega

set_option maxRecDepth 20000 in
set_option maxHeartbeats 4000000 in
theorem words_any (s : ByteArray) (w : World) (hs : s.size ≤ 4000000) :
    Calls Tryd.prog 43 #[.string s] w fun e w' => ∃ v, e = .returned v ∧ Gr w w' ∧ StrsR w' v (wordsP s) := by
  obtain ⟨W, hW⟩ : ∃ W, wordsP s = W := ⟨_, rfl⟩
  rw [hW]
  have HS : Hid (([] : List ByteArray) ++ (wordsG ((s.data.toList.take 0).drop 0) (s.data.toList.drop 0)).map toBa = W) := by
    refine Lib.hid ?_
    rw [← hW]; unfold wordsP; simp
  clear hW
  obtain ⟨is, his, hs0, hs1, hs2⟩ := info_parts infoStr
  go_enter Tryd.func43, Tryd.ntmps43
  go_wp2
  go_loopw [3, 4, 5] (fun o a i wr => ∃ (ws : List ByteArray) (j k : Nat), a = .int .i64 j ∧ i = .int .i64 k ∧ j ≤ k ∧ k ≤ s.size + 1 ∧ Gr w wr ∧ StrsO w.heap.size 9 wr o ws ∧ ws.length ≤ k ∧ Hid (if k ≤ s.size then ws ++ (wordsG ((s.data.toList.take k).drop j) (s.data.toList.drop k)).map toBa = W else ws = W)) (fun _ _ i _ => s.size + 2 - (RowKit.intOf i).toNat)
  case atStart => exact ⟨[], 0, 0, rfl, rfl, Nat.le_refl _, Nat.zero_le _, Gr.refl w, StrsO.nil _ _ _, Nat.le_refl _, by rw [if_pos (Nat.zero_le _)]; exact HS⟩
  case round =>
    obtain ⟨ws, j, k, rfl, rfl, h1, h2, hg, hO, hwl, hno⟩ := hrel
    clear HS
    by_cases c1 : k ≤ s.size
    · have q1 : decide ((k : Int) ≤ (s.size : Int)) = true := decide_eq_true (by omega)
      have hd := hno.out
      rw [if_pos c1] at hd
      have hsz := hg.size
      have hge := own_ge hO
      obtain ⟨po, co, rfl⟩ := own_shape hO
      have hO := Lib.hid hO
      have hlen : ((s.data.toList.take k).drop j).length = k - j := by rw [List.length_drop, List.length_take, ba_len]; omega
      by_cases c2 : k = s.size
      · have q2 : ((k : Int) == (s.size : Int)) = true := by simp [c2]
        rw [ba_drop_end s k (by omega), wordsG_nil] at hd
        by_cases c3 : j < k
        · have q3 : decide ((j : Int) < (k : Int)) = true := decide_eq_true (by omega)
          rw [if_neg (fun e => by rw [e] at hlen; simp at hlen; omega)] at hd
          have hV : Hid (if k + 1 ≤ s.size then (ws ++ [s.extract j k]) ++ (wordsG ((s.data.toList.take (k + 1)).drop (k + 1)) (s.data.toList.drop (k + 1))).map toBa = W else ws ++ [s.extract j k] = W) := by
            refine Lib.hid ?_
            rw [if_neg (by omega), ← toBa_ex]; exact hd
          clear hd hno hlen c2
          go_wp2_with (at_builtin; refine wpList_append_rd rfl (.tmp 25) (.tmp 30) 35 rfl w.heap.size 9 is (.string ByteArray.empty) 1 16 (by kernel_rfl) his hs0 hs1 hs2 rfl (by decide) (.slice po ws.length co) ws.length (ws.map Value.string) rfl (World.ownsRow.alloc hO.out _) _ 1 [.string (s.extract j k)] rfl (Rd.new wr #[.string (s.extract j k)] 9 1 1 1 rfl) ?_ ?_ ?_ ?_ ?_; (· intro u hu; simp at hu; subst hu; rfl); (· unfold maxLen; omega); (· omega); (· simp; omega); intro lv2 w2 hown2 hgrow2)
          have hg2 : Gr w w2 := (hg.alloc _).grown hgrow2 hge
          have hO2 : StrsO w.heap.size 9 w2 lv2 (ws ++ [s.extract j k]) := by unfold StrsO; rw [List.map_append, List.length_append]; exact hown2
          clear hown2 hgrow2
          go_roundw
          case rel => exact ⟨ws ++ [s.extract j k], k + 1, k + 1, by go_num, by go_num, Nat.le_refl _, by omega, hg2, hO2, by rw [List.length_append]; show _ + 1 ≤ _; omega, hV⟩
          case measure => simp [RowKit.intOf]; omega
        · have q3 : decide ((j : Int) < (k : Int)) = false := decide_eq_false (by omega)
          rw [if_pos (List.eq_nil_of_length_eq_zero (by omega))] at hd
          have hV : Hid (if k + 1 ≤ s.size then ws ++ (wordsG ((s.data.toList.take (k + 1)).drop (k + 1)) (s.data.toList.drop (k + 1))).map toBa = W else ws = W) := by
            refine Lib.hid ?_
            rw [if_neg (by omega)]; simpa using hd
          clear hd hno hlen
          go_wp2
          go_roundw
          case rel => exact ⟨ws, k + 1, k + 1, by go_num, by go_num, Nat.le_refl _, by omega, hg, hO.out, by omega, hV⟩
          case measure => simp [RowKit.intOf]; omega
      · have c4 : k < s.size := by omega
        have q2 : ((k : Int) == (s.size : Int)) = false := by simp; omega
        rw [ba_drop s k c4] at hd
        by_cases c5 : s[k] = 32
        · have q4 : ((s[k].toNat : Int) == 32) = true := by rw [c5]; rfl
          rw [c5, wordsG_blank] at hd
          by_cases c3 : j < k
          · have q3 : decide ((j : Int) < (k : Int)) = true := decide_eq_true (by omega)
            rw [if_neg (fun e => by rw [e] at hlen; simp at hlen; omega)] at hd
            have hV : Hid (if k + 1 ≤ s.size then (ws ++ [s.extract j k]) ++ (wordsG ((s.data.toList.take (k + 1)).drop (k + 1)) (s.data.toList.drop (k + 1))).map toBa = W else ws ++ [s.extract j k] = W) := by
              refine Lib.hid ?_
              rw [if_pos (by omega), ← toBa_ex, List.drop_of_length_le (i := k + 1) (by rw [List.length_take]; omega), ← hd]
              simp
            clear hd hno hlen
            go_wp2_with (at_builtin; refine wpList_append_rd rfl (.tmp 25) (.tmp 30) 35 rfl w.heap.size 9 is (.string ByteArray.empty) 1 16 (by kernel_rfl) his hs0 hs1 hs2 rfl (by decide) (.slice po ws.length co) ws.length (ws.map Value.string) rfl (World.ownsRow.alloc hO.out _) _ 1 [.string (s.extract j k)] rfl (Rd.new wr #[.string (s.extract j k)] 9 1 1 1 rfl) ?_ ?_ ?_ ?_ ?_; (· intro u hu; simp at hu; subst hu; rfl); (· unfold maxLen; omega); (· omega); (· simp; omega); intro lv2 w2 hown2 hgrow2)
            have hg2 : Gr w w2 := (hg.alloc _).grown hgrow2 hge
            have hO2 : StrsO w.heap.size 9 w2 lv2 (ws ++ [s.extract j k]) := by unfold StrsO; rw [List.map_append, List.length_append]; exact hown2
            clear hown2 hgrow2
            go_roundw
            case rel => exact ⟨ws ++ [s.extract j k], k + 1, k + 1, by go_num, by go_num, Nat.le_refl _, by omega, hg2, hO2, by rw [List.length_append]; show _ + 1 ≤ _; omega, hV⟩
            case measure => simp [RowKit.intOf]; omega
          · have q3 : decide ((j : Int) < (k : Int)) = false := decide_eq_false (by omega)
            rw [if_pos (List.eq_nil_of_length_eq_zero (by omega))] at hd
            have hV : Hid (if k + 1 ≤ s.size then ws ++ (wordsG ((s.data.toList.take (k + 1)).drop (k + 1)) (s.data.toList.drop (k + 1))).map toBa = W else ws = W) := by
              refine Lib.hid ?_
              rw [if_pos (by omega), List.drop_of_length_le (i := k + 1) (by rw [List.length_take]; omega)]
              exact hd
            clear hd hno hlen
            go_wp2
            go_roundw
            case rel => exact ⟨ws, k + 1, k + 1, by go_num, by go_num, Nat.le_refl _, by omega, hg, hO.out, by omega, hV⟩
            case measure => simp [RowKit.intOf]; omega
        · have q4 : ((s[k].toNat : Int) == 32) = false := by
            have : s[k].toNat ≠ 32 := fun e => c5 (UInt8.toNat_inj.1 e)
            simp; omega
          rw [wordsG, if_neg c5] at hd
          have hV : Hid (if k + 1 ≤ s.size then ws ++ (wordsG ((s.data.toList.take (k + 1)).drop j) (s.data.toList.drop (k + 1))).map toBa = W else ws = W) := by
            refine Lib.hid ?_
            have ht : (s.data.toList.take (k + 1)).drop j = (s.data.toList.take k).drop j ++ [s[k]] := by
              rw [← List.take_append_getElem (by rw [ba_len]; exact c4), List.drop_append_of_le_length (by rw [List.length_take, ba_len]; omega)]
              rfl
            rw [if_pos (by omega), ht]
            exact hd
          clear hd hno hlen
          go_wp2
          go_roundw
          case rel => exact ⟨ws, j, k + 1, by go_num, by go_num, by omega, by omega, hg, hO.out, by omega, hV⟩
          case measure => simp [RowKit.intOf]; omega
    · have q1 : decide ((k : Int) ≤ (s.size : Int)) = false := decide_eq_false (by omega)
      have hd := hno.out
      rw [if_neg c1] at hd
      have hV := Lib.hid hd
      clear hd hno
      go_wp2
      go_ret
      exact ⟨_, rfl, hg, by rw [← hV.out]; exact hO.read⟩
end Go.Proofs.YtckmebfgianeoaaDoor
