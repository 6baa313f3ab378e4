/-
  Contract of bare of the law: a string without its blanks.
  Conditions: the string has at most 2^40 bytes.
-/
import Derived.Test.YtckmebfgianeoaaDoorMathK
import Derived.Laws.OwnMore
import Derived.Laws.MakeOwn
import Derived.Laws.BytesArg
import Derived.Laws.IdiomStrings
namespace Go.Proofs.YtckmebfgianeoaaDoor
open Go.RowKit Go.Lib
set_option linter.unusedSimpArgs false
set_option linter.unusedVariables false

theorem infoU8 : (Tryd.prog.info? 5).map (fun i => (i.zero, i.size, i.bytes)) = some (some (.int .u8 0), 1, 1) := by kernel_rfl
def cellB (b : UInt8) : Value := .int .u8 (b.toNat : Int)
theorem conv_any {w : World} {base : Nat} {v : Value} {l : List UInt8} (h : w.ownsRow base 5 1 v l.length (l.map cellB)) : (convert 53 9 v).run Tryd.prog w = .ok (.string ⟨l.toArray⟩) w := by
  rcases h.2 with ⟨rfl, hl⟩ | ⟨g, cap, cur, rfl, hb, hg, hr⟩
  · have : l = [] := List.eq_nil_of_length_eq_zero (by omega)
    subst this
    exact run_convert_bytes_nil w _ _ Tryd.underlying53 Tryd.underlying5 _ _ _ Tryd.underlying9
  · refine run_convert_bytes_back w _ _ _ _ _ l Tryd.underlying53 Tryd.underlying5 Tryd.underlying9 (fun j hj => ?_)
    have := h.cells (g := g) rfl j (cellB l[j]) (by simp [hj])
    exact this

set_option maxRecDepth 20000 in
set_option maxHeartbeats 4000000 in
theorem bare_any (s : ByteArray) (w : World) (hs : s.size ≤ 1099511627776) :
    Calls Tryd.prog 21 #[.string s] w fun e w' => e = .returned (.string (toBa (bareL s.data.toList))) ∧ Gr w w' := by
  obtain ⟨iu, hiu, hu0, hu1, hu2⟩ := info_parts infoU8
  obtain ⟨w1, hmk, hown1, hgrow1⟩ := run_make_own (P := Tryd.prog) w w.heap.size 53 5 iu (.int .u8 0) 1 Tryd.underlying53 hiu hu0 hu1 .i64 .i64 s.size (by rw [hu2]; omega) (by unfold maxLen; omega) (Nat.le_refl _)
  obtain ⟨R, hR⟩ : ∃ R, bareL s.data.toList = R := ⟨_, rfl⟩
  rw [hR]
  have HS : Hid (([] : List UInt8) ++ bareL (s.data.toList.drop 0) = R) := hR
  clear hR
  have hg1 : Gr w w1 := (Gr.refl w).grown hgrow1 (fun k h => by cases h)
  go_enter Tryd.func21, Tryd.ntmps21
  go_wp2
  go_loopw [3, 4] (fun o i wr => ∃ (k : Nat) (acc : List UInt8), i = .int .i64 k ∧ k ≤ s.size ∧ Gr w wr ∧ wr.ownsRow w.heap.size 5 1 o acc.length (acc.map cellB) ∧ acc.length ≤ k ∧ Hid (acc ++ bareL (s.data.toList.drop k) = R)) (fun _ i _ => s.size - (RowKit.intOf i).toNat)
  case atStart => exact ⟨0, [], rfl, Nat.zero_le _, hg1, hown1, Nat.le_refl _, HS⟩
  case round =>
    obtain ⟨k, acc, rfl, h1, hg, hO, hal, hno⟩ := hrel
    clear HS hown1 hgrow1 hg1 hmk
    have hsz := hg.size
    have hge := own_ge hO
    obtain ⟨po, co, rfl⟩ := own_shape hO
    by_cases c1 : k < s.size
    · have q1 : decide (k < s.size) = true := decide_eq_true c1
      have hd := hno.out
      rw [ba_drop s k c1] at hd
      have hO := Lib.hid hO
      by_cases c2 : s[k] = 32
      · have q2 : ((s[k].toNat : Int) != 32) = false := by rw [c2]; rfl
        have hV : Hid (acc ++ bareL (s.data.toList.drop (k + 1)) = R) := by
          refine Lib.hid ?_
          rw [← hd, c2]; rfl
        clear hd hno
        go_wp2
        go_roundw
        case rel => exact ⟨k + 1, acc, by go_num, by omega, hg, hO.out, by omega, hV⟩
        case measure => simp [RowKit.intOf]; omega
      · have hne : s[k].toNat ≠ 32 := fun e => c2 (UInt8.toNat_inj.1 e)
        have q2 : ((s[k].toNat : Int) != 32) = true := by simp; omega
        have hV : Hid ((acc ++ [s[k]]) ++ bareL (s.data.toList.drop (k + 1)) = R) := by
          refine Lib.hid ?_
          rw [← hd, List.append_assoc]
          unfold bareL
          rw [List.filter_cons, if_pos (by simp [c2])]
          rfl
        clear hd hno hne
        go_wp2_with (at_builtin; refine wpList_append_rd rfl (.tmp 18) (.tmp 22) 53 rfl w.heap.size 5 iu (.int .u8 0) 1 1 (by kernel_rfl) hiu hu0 hu1 hu2 rfl (by decide) (.slice po acc.length co) acc.length (acc.map cellB) rfl (World.ownsRow.alloc hO.out _) _ 1 [.int .u8 s[k].toNat] rfl (Rd.new wr #[.int .u8 s[k].toNat] 5 1 1 1 rfl) ?_ ?_ ?_ ?_ ?_; (· intro u hu; simp at hu; subst hu; rfl); (· unfold maxLen; omega); (· omega); (· simp; omega); intro lv2 w2 hown2 hgrow2)
        have hg2 : Gr w w2 := (hg.alloc _).grown hgrow2 hge
        have hO2 : w2.ownsRow w.heap.size 5 1 lv2 (acc ++ [s[k]]).length ((acc ++ [s[k]]).map cellB) := by rw [List.map_append, List.length_append]; exact hown2
        clear hown2 hgrow2
        go_roundw
        case rel => exact ⟨k + 1, _, by go_num, by omega, hg2, hO2, by rw [List.length_append]; show _ + 1 ≤ _; omega, hV⟩
        case measure => simp [RowKit.intOf]; omega
    · have q1 : decide (k < s.size) = false := decide_eq_false c1
      have hd := hno.out
      rw [ba_drop_end s k (by omega)] at hd
      have hV : Hid (acc = R) := by
        refine Lib.hid ?_
        rw [← hd]; simp [bareL]
      have kc := conv_any hO
      clear hd hno
      go_wp2
      go_ret
      exact ⟨by rw [← hV.out]; rfl, hg⟩
end Go.Proofs.YtckmebfgianeoaaDoor
