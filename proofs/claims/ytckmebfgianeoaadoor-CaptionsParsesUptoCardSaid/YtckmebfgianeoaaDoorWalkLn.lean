/-
  Contract of lines of the reference.
  Conditions: the text has fewer than 4,294,967,281 bytes.
-/
import Derived.Test.YtckmebfgianeoaaDoorWalkRw
import Derived.Outline
namespace Go.Proofs.YtckmebfgianeoaaDoor
open Go.RowKit Go.Lib
set_option linter.unusedSimpArgs false
set_option linter.unusedVariables false

/-- a text divided at its bytes 10, and what stands behind the last of them -/
def lnsG (c : List UInt8) : List UInt8 → List (List UInt8) × List UInt8
  | [] => ([], c)
  | b :: r => if b = 10 then (c :: (lnsG [] r).1, (lnsG [] r).2) else lnsG (c ++ [b]) r

set_option maxRecDepth 20000 in
set_option maxHeartbeats 4000000 in
theorem lines_any (s : ByteArray) (w : World) (hs : s.size < 4294967281) :
    Calls Tryd.prog 57 #[.string s] w fun e w' => ∃ v, e = .returned (.tuple #[v, .bool (decide ((lnsG [] s.data.toList).2 = []))]) ∧ Gr w w' ∧ StrsR w' v ((lnsG [] s.data.toList).1.map toBa) := by
  obtain ⟨L, R, hL, hR⟩ : ∃ L R, (lnsG [] s.data.toList).1.map toBa = L ∧ (lnsG [] s.data.toList).2 = R := ⟨_, _, rfl, rfl⟩
  rw [hL, hR]
  have HS : Hid (([] : List ByteArray) ++ (lnsG ((s.data.toList.take 0).drop 0) (s.data.toList.drop 0)).1.map toBa = L ∧ (lnsG ((s.data.toList.take 0).drop 0) (s.data.toList.drop 0)).2 = R) := by
    refine Lib.hid ?_
    rw [← hL, ← hR]; simp
  clear hL hR
  obtain ⟨is, his, hs0, hs1, hs2⟩ := info_parts infoStr
  go_enter Tryd.func57, Tryd.ntmps57
  go_wp2
  go_loopw [4, 5, 6] (fun o a i wr => ∃ (ws : List ByteArray) (j k : Nat), a = .int .i64 j ∧ i = .int .i64 k ∧ j ≤ k ∧ k ≤ s.size ∧ Gr w wr ∧ StrsO w.heap.size 9 wr o ws ∧ ws.length ≤ k ∧ Hid (ws ++ (lnsG ((s.data.toList.take k).drop j) (s.data.toList.drop k)).1.map toBa = L ∧ (lnsG ((s.data.toList.take k).drop j) (s.data.toList.drop k)).2 = R)) (fun _ _ i _ => s.size + 1 - (RowKit.intOf i).toNat)
  case atStart => exact ⟨[], 0, 0, rfl, rfl, Nat.le_refl _, Nat.zero_le _, Gr.refl w, StrsO.nil _ _ _, Nat.le_refl _, HS⟩
  case round =>
    obtain ⟨ws, j, k, rfl, rfl, h1, h2, hg, hO, hwl, hno⟩ := hrel
    clear HS
    have hd := hno.out
    have hsz := hg.size
    have hge := own_ge hO
    obtain ⟨po, co, rfl⟩ := own_shape hO
    have hO := Lib.hid hO
    by_cases c1 : k < s.size
    · have q1 : decide ((k : Int) < (s.size : Int)) = true := decide_eq_true (by omega)
      rw [ba_drop s k c1] at hd
      by_cases c5 : s[k] = 10
      · have q4 : ((s[k].toNat : Int) == 10) = true := by rw [c5]; rfl
        rw [lnsG, if_pos c5] at hd
        have hV : Hid ((ws ++ [s.extract j k]) ++ (lnsG ((s.data.toList.take (k + 1)).drop (k + 1)) (s.data.toList.drop (k + 1))).1.map toBa = L ∧ (lnsG ((s.data.toList.take (k + 1)).drop (k + 1)) (s.data.toList.drop (k + 1))).2 = R) := by
          refine Lib.hid ?_
          rw [← toBa_ex, List.drop_of_length_le (i := k + 1) (by rw [List.length_take]; omega), ← hd.1, ← hd.2]
          simp
        clear hd hno
        go_wp2_with (at_builtin; go_loud (refine wpList_append_rd rfl (.tmp 17) (.tmp 22) 35 rfl w.heap.size 9 is (.string ByteArray.empty) 1 16 (by kernel_rfl) his hs0 hs1 hs2 rfl (by decide) (.slice po ws.length co) ws.length (ws.map Value.string) rfl (World.ownsRow.alloc hO.out _) _ 1 [.string (s.extract j k)] rfl (Rd.new wr #[.string (s.extract j k)] 9 1 1 1 rfl) ?_ ?_ ?_ ?_ ?_; (· intro u hu; simp at hu; subst hu; rfl); (· unfold maxLen; omega); (· omega); (· simp; omega); intro lv2 w2 hown2 hgrow2))
        have hg2 : Gr w w2 := (hg.alloc _).grown hgrow2 hge
        have hO2 : StrsO w.heap.size 9 w2 lv2 (ws ++ [s.extract j k]) := by unfold StrsO; rw [List.map_append, List.length_append]; exact hown2
        clear hown2 hgrow2
        go_roundw
        case rel => exact ⟨ws ++ [s.extract j k], k + 1, k + 1, by go_num, by go_num, Nat.le_refl _, by omega, hg2, hO2, by rw [List.length_append]; show _ + 1 ≤ _; omega, hV⟩
        case measure => simp [RowKit.intOf]; omega
      · have q4 : ((s[k].toNat : Int) == 10) = false := by
          have : s[k].toNat ≠ 10 := fun e => c5 (UInt8.toNat_inj.1 e)
          simp; omega
        rw [lnsG, if_neg c5] at hd
        have hV : Hid (ws ++ (lnsG ((s.data.toList.take (k + 1)).drop j) (s.data.toList.drop (k + 1))).1.map toBa = L ∧ (lnsG ((s.data.toList.take (k + 1)).drop j) (s.data.toList.drop (k + 1))).2 = R) := by
          refine Lib.hid ?_
          have ht : (s.data.toList.take (k + 1)).drop j = (s.data.toList.take k).drop j ++ [s[k]] := by
            rw [← List.take_append_getElem (by rw [ba_len]; exact c1), List.drop_append_of_le_length (by rw [List.length_take, ba_len]; omega)]
            rfl
          rw [ht]
          exact hd
        clear hd hno
        go_wp2
        go_roundw
        case rel => exact ⟨ws, j, k + 1, by go_num, by go_num, by omega, by omega, hg, hO.out, by omega, hV⟩
        case measure => simp [RowKit.intOf]; omega
    · have q1 : decide ((k : Int) < (s.size : Int)) = false := decide_eq_false (by omega)
      have hk : k = s.size := by omega
      rw [ba_drop_end s k (by omega), lnsG] at hd
      have hlen : ((s.data.toList.take k).drop j).length = k - j := by rw [List.length_drop, List.length_take, ba_len]; omega
      have hV : Hid (ws = L ∧ ((j : Int) == (s.size : Int)) = decide (R = [])) := by
        refine Lib.hid ⟨by rw [← hd.1]; simp, ?_⟩
        rw [← hd.2]
        show _ = decide ((s.data.toList.take k).drop j = [])
        by_cases hj : j = s.size
        · rw [decide_eq_true (List.eq_nil_of_length_eq_zero (by omega))]; simp [hj]
        · rw [decide_eq_false (fun e => by rw [e] at hlen; simp at hlen; omega)]; simp; omega
      clear hd hno hk hlen
      go_wp2
      simp [bodyPost, results, Tryd.results57, go_sem]
      refine ⟨_, ⟨rfl, ?_⟩, hg, by rw [← hV.out.1]; exact hO.out.read⟩
      have := hV.out.2
      simpa using this
end Go.Proofs.YtckmebfgianeoaaDoor
