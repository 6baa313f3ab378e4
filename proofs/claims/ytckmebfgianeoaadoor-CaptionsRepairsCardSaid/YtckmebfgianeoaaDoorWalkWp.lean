/-
  Contract of wrapAll of package captions.
  Conditions: the lines lie in memory; at most four, each of at most 64 bytes.
-/
import Derived.Test.YtckmebfgianeoaaDoorMathR
import Derived.Test.YtckmebfgianeoaaDoorWalkWr
import Derived.Test.YtckmebfgianeoaaDoorWalkCu
import Derived.Outline
namespace Go.Proofs.YtckmebfgianeoaaDoor
open Go.RowKit Go.Lib
set_option linter.unusedSimpArgs false
set_option linter.unusedVariables false

/-- the first elements of a slice -/
theorem Rd.take {W : World} {a : Option Addr} {n cap : Nat} {xs : List Value} (h : Rd W (.slice a n cap) n 1 xs) (m : Nat) (hm : m ≤ n) : Rd W (.slice a m cap) m 1 (xs.take m) := by
  obtain ⟨hl, a', cap', he, h0⟩ := h
  injection he with h1 h2 h3
  subst h1 h3
  refine ⟨by rw [List.length_take]; omega, a, cap, rfl, ?_⟩
  rcases h0 with ⟨h1, h2⟩ | ⟨b, o, rfl, hb, hc⟩
  · exact .inl ⟨by omega, h2⟩
  · refine .inr ⟨b, o, rfl, hb, fun j u hj => hc j u ?_⟩
    rw [List.getElem?_take] at hj
    split at hj
    · exact hj
    · cases hj

theorem slice_own (p : Option Addr) (n c n' c' : Nat) : (Value.slice p n c).ownBlock = (Value.slice p n' c').ownBlock := by cases p <;> rfl
theorem own_cap {w : World} {base n size : Nat} {e : TypeId} {p : Option Addr} {c : Nat} {xs : List Value} (h : w.ownsRow base e size (.slice p n c) n xs) : n ≤ c := by
  rcases h.2 with ⟨h1, rfl⟩ | ⟨g, cap, cur, h1, _, _, h2, _⟩
  · exact Nat.zero_le _
  · injection h1 with h3 h4 h5
    omega
set_option maxRecDepth 20000 in
set_option maxHeartbeats 4000000 in
theorem wrapAll_any (v : Value) (ss : List ByteArray) (k : Int) (w : World) (hS : StrsR w v ss) (hk : 1 ≤ k ∧ k ≤ 64) (hs : ∀ x ∈ ss, x.size ≤ 64) (hn : ss.length ≤ 4) :
    Calls Tryd.prog 66 #[v, .int .i64 k] w fun e w' => ∃ v', e = .returned v' ∧ Gr w w' ∧ StrsR w' v' (linesW k ss) ∧ (∀ base e', 9 ≠ e' → Far base e' w' v') ∧ ∀ j, v'.ownBlock = some j → w.heap.size ≤ j := by
  have HW : Hid (∀ (t : ByteArray) w', t.size ≤ 64 → Calls Tryd.prog 19 #[.string t, .int .i64 k] w' fun e w'' => ∃ v, e = .returned v ∧ Gr w' w'' ∧ StrsR w'' v (wrapP k t)) := fun t w' h1 => wrap_any t k w' (by omega) (by omega)
  obtain ⟨is, his, hs0, hs1, hs2⟩ := info_parts infoStr
  obtain ⟨a, cap, rfl, hh⟩ := hS.shape
  have hh := Lib.hid hh
  have hs := Lib.hid hs
  clear hS
  go_enter Tryd.func66, Tryd.ntmps66
  go_wp2
  go_loopw [5, 10] (fun o i wr => ∃ (kk : Nat) (ls : List ByteArray), i = .int .i64 kk ∧ kk ≤ ss.length ∧ Gr w wr ∧ StrsO w.heap.size 9 wr o ls ∧ ls.length ≤ kk * 129 ∧ Hid (ls = (ss.take kk).flatMap (wrapP k))) (fun _ i _ => ss.length - (RowKit.intOf i).toNat)
  case atStart => exact ⟨0, [], rfl, Nat.zero_le _, Gr.refl _, StrsO.nil _ _ _, by simp, rfl⟩
  case round =>
    obtain ⟨kk, ls, rfl, h1, hg, hO, hln, hno⟩ := hrel
    have hsz := hg.size
    have hge := own_ge hO
    obtain ⟨po, co, rfl⟩ := own_shape hO
    by_cases c1 : kk < ss.length
    · have q1 : decide (kk < ss.length) = true := decide_eq_true c1
      rcases hh.out with h | ⟨b, o, rfl, hb, hcell⟩
      · omega
      have hc0 := hcell kk c1
      have hc1 := (hg.cells.1 b _ hb).trans hc0
      have hx1 : b < wr.heap.size := Nat.lt_of_lt_of_le hb hg.size
      have hz := hs.out _ (List.getElem_mem c1)
      have htk : Hid (ss.take (kk + 1) = ss.take kk ++ [ss[kk]]) := List.take_append_getElem c1 |>.symm
      generalize ss[kk] = t at hc0 hc1 hz htk
      clear hcell hc0
      have hO := Lib.hid hO
      have hLn := wrapP_len2 k t
      have HWt : Hid (∀ w', Calls Tryd.prog 19 #[.string t, .int .i64 k] w' fun e w'' => ∃ v, e = .returned v ∧ Gr w' w'' ∧ StrsR w'' v (wrapP k t)) := fun w' => HW.out t w' hz
      have hV : Hid (ls ++ wrapP k t = (ss.take (kk + 1)).flatMap (wrapP k)) := by
        refine Lib.hid ?_
        rw [htk.out, List.flatMap_append, ← hno.out]; simp
      clear hno htk
      generalize wrapP k t = L at hLn HWt hV
      go_wp2_with (first
        | (go_at_call 19; (with_reducible refine (HWt.out _).mono ?_); rintro e w1 ⟨v1, rfl, hg1, hS1⟩; obtain ⟨p1, k1, rfl, hh1⟩ := hS1.shape; clear hh1; have hS1 := Lib.hid hS1)
        | (at_builtin; refine wpList_append_rd rfl (.tmp 14) (.tmp 17) 35 rfl w.heap.size 9 is (.string ByteArray.empty) 1 16 (by kernel_rfl) his hs0 hs1 hs2 rfl (by decide) (.slice po ls.length co) ls.length (ls.map Value.string) rfl (own_gr hg1 hO.out) (.slice p1 L.length k1) L.length (L.map Value.string) rfl hS1.out (strs_oneCell _) ?_ ?_ ?_ ?_; (· unfold maxLen; omega); (· omega); (· have := hg1.size; omega); intro lv2 w2 hown2 hgrow2))
      have hg2 : Gr w w2 := (hg.trans hg1).grown hgrow2 hge
      have hO2 : StrsO w.heap.size 9 w2 lv2 (ls ++ L) := by unfold StrsO; rw [List.map_append, List.length_append]; exact hown2
      clear hown2 hgrow2
      go_roundw
      case rel => exact ⟨kk + 1, ls ++ L, by go_num, by omega, hg2, hO2, by rw [List.length_append]; omega, hV⟩
      case measure => simp [RowKit.intOf]; omega
    · have q1 : decide (kk < ss.length) = false := decide_eq_false c1
      obtain rfl : kk = ss.length := by omega
      have hV : Hid (ls.take 4 = linesW k ss) := by
        refine Lib.hid ?_
        have := hno.out
        rw [List.take_length] at this
        rw [this]; rfl
      clear hno
      have hrd := hO.read
      have hcap := own_cap hO
      have hF : ∀ base e', 9 ≠ e' → Far base e' wr (.slice po ls.length co) := fun base e' h => Far.row hO h
      have hF4 : ∀ base e', 9 ≠ e' → Far base e' wr (.slice po 4 co) := fun base e' h k hk => hF base e' h k ((slice_own po 4 co ls.length co).symm.trans hk)
      have hge4 : ∀ j, (Value.slice po 4 co).ownBlock = some j → w.heap.size ≤ j := fun j hj => hge j ((slice_own po 4 co ls.length co).symm.trans hj)
      have hF4 := Lib.hid hF4
      have hge4 := Lib.hid hge4
      have hrd := Lib.hid hrd
      have hge := Lib.hid hge
      have hF := Lib.hid hF
      clear hO
      by_cases c4 : ls.length ≤ 4
      · have e4 : min (ls.length : Int) 4 = (ls.length : Int) := by omega
        go_wp2
        go_ret
        exact ⟨_, rfl, hg, by rw [← hV.out, List.take_of_length_le c4]; exact hrd.out, hF.out, hge.out⟩
      · have e4 : min (ls.length : Int) 4 = 4 := by omega
        have c5 : 4 ≤ co := by omega
        go_wp2
        go_ret
        refine ⟨_, rfl, hg, ?_, hF4.out, hge4.out⟩
        have := Rd.take hrd.out 4 (by omega)
        rw [← List.map_take, hV.out] at this
        unfold StrsR
        rw [show (linesW k ss).length = 4 by rw [← hV.out, List.length_take]; omega]
        exact this
end Go.Proofs.YtckmebfgianeoaaDoor
