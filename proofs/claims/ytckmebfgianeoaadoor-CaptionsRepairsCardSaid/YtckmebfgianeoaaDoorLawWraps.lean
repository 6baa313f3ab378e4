/-
  Walk of the law CaptionsWraps.
  Conditions: the line has at most 1,400,000 bytes.
-/
import Derived.Test.YtckmebfgianeoaaDoorLawCuts
import Derived.Test.YtckmebfgianeoaaDoorWalkRx
import Derived.Test.YtckmebfgianeoaaDoorWalkWr
namespace Go.Proofs.YtckmebfgianeoaaDoor
open Go.RowKit Go.Lib
set_option linter.unusedSimpArgs false
set_option linter.unusedVariables false

theorem wrap_bound (m : Int) : -9223372036854775808 ≤ IntKind.i64.wrap m ∧ IntKind.i64.wrap m ≤ 9223372036854775807 := by
  rw [IntKind.wrap_i64]; omega
theorem foldl_len (k : Nat) (hk : 0 < k) : ∀ (ws : List (List UInt8)) (ls : List ByteArray) (cur : List UInt8), (∀ x ∈ ws, x ≠ []) → (ws.foldl (addW k) (ls, cur)).1.length + (ws.foldl (addW k) (ls, cur)).2.length ≤ ls.length + cur.length + 2 * (ws.map List.length).sum
  | [], ls, cur, _ => by simp
  | x :: ws, ls, cur, h => by
    have h1 := addW_len k hk ls cur x (h x (List.mem_cons_self ..))
    have h2 := foldl_len k hk ws (addW k (ls, cur) x).1 (addW k (ls, cur) x).2 (fun y hy => h y (List.mem_cons_of_mem _ hy))
    rw [List.foldl_cons, List.map_cons, List.sum_cons]
    rw [show ((addW k (ls, cur) x).1, (addW k (ls, cur) x).2) = addW k (ls, cur) x from rfl] at h2
    omega
theorem wrapP_len (k : Int) (s : ByteArray) (hs : s.size ≤ 1900000) : (wrapP k s).length ≤ 140737488355328 := by
  unfold wrapP
  split
  · simp
  · split
    · simp
    · unfold wrapM
      have h1 := foldl_len k.toNat (by omega) (wordsG [] s.data.toList) [] [] (wordsG_ne _ _)
      have h2 := wordsG_sum [] s.data.toList
      have h3 := endL_len ((wordsG [] s.data.toList).foldl (addW k.toNat) ([], [])).1 ((wordsG [] s.data.toList).foldl (addW k.toNat) ([], [])).2
      rw [ba_len] at h2
      simp only [List.length_nil] at h1 h2
      refine Nat.le_trans h3 ?_
      omega
abbrev fewS : ByteArray := ⟨#[97, 32, 102, 101, 119, 32, 32, 119, 111, 114, 100, 115, 44, 32, 115, 111, 109, 101, 45, 111, 102, 45, 116, 104, 101, 109, 45, 114, 97, 116, 104, 101, 114, 45, 108, 111, 110, 103, 32]⟩

set_option maxRecDepth 20000 in
set_option maxHeartbeats 4000000 in
theorem lawWraps_walk (s : ByteArray) (n : Int) (w : World) (hs : s.size ≤ 1400000) (hn : -9223372036854775808 ≤ n ∧ n ≤ 9223372036854775807) (hT : Pow w) :
    Calls Tryd.prog 4 #[.string s, .int .i64 n] w fun e w' => e = .returned (.bool true) ∧ Gr w w' := by
  have HW : Hid (∀ w', Gr w w' → Calls Tryd.prog 17 #[] w' fun e w'' => e = .returned (.bool true) ∧ Gr w' w'') := fun w' hg => awake_any w' (Pow.gr hg hT)
  have H1 : Hid (∀ (t : ByteArray) (k : Int) w', t.size ≤ 1500000 → (-9223372036854775808 ≤ k ∧ k ≤ 9223372036854775807) → Calls Tryd.prog 19 #[.string t, .int .i64 k] w' fun e w'' => ∃ v, e = .returned v ∧ Gr w' w'' ∧ StrsR w'' v (wrapP k t)) := fun t k w' h1 h2 => wrap_any t k w' h2.2 h1
  have H2 : Hid (∀ (t : ByteArray) (k : Int) w', t.size ≤ 1500000 → (-9223372036854775808 ≤ k ∧ k ≤ 9223372036854775807) → Calls Tryd.prog 20 #[.string t, .int .i64 k] w' fun e w'' => ∃ v, e = .returned v ∧ Gr w' w'' ∧ StrsR w'' v (wrapP k t)) := fun t k w' h1 h2 => rwrap_any t k w' (by omega) h2
  have HS : Hid (∀ v1 v2 (L : List ByteArray) w', L.length ≤ 140737488355328 → StrsR w' v1 L → StrsR w' v2 L → Calls Tryd.prog 18 #[v1, v2] w' fun e w'' => e = .returned (.bool true) ∧ Gr w' w'') := fun v1 v2 L w' h0 h1 h2 => by
    have := strings_any v1 v2 _ _ w' h1 h2 h0 h0
    rw [decide_eq_true rfl] at this
    exact this
  obtain ⟨x, hx⟩ : ∃ x, bits BinOp.and IntKind.i64 n 15 = x := ⟨_, rfl⟩
  obtain ⟨y, hy⟩ : ∃ y, bits BinOp.and IntKind.i64 n 63 = y := ⟨_, rfl⟩
  have hxb : -9223372036854775808 ≤ x ∧ x ≤ 9223372036854775807 := by rw [← hx]; exact wrap_bound _
  have hyb : -9223372036854775808 ≤ y ∧ y ≤ 9223372036854775807 := by rw [← hy]; exact wrap_bound _
  go_enter Tryd.func4, Tryd.ntmps4
  have hP := Cel.new w #[.int .i64 n, .int .i64 x, .int .i64 y] 3
  have hg0 : Gr w (w.alloc (.cells #[.int .i64 n, .int .i64 x, .int .i64 y] 3)) := (Gr.refl w).alloc _
  go_wp2
  generalize w.alloc (.cells #[.int .i64 n, .int .i64 x, .int .i64 y] 3) = V at *
  go_loopw [14] (fun k wr => ∃ jj : Nat, jj ≤ 3 ∧ k = .int .i64 jj ∧ Gr w wr ∧ Cel wr w.heap.size [.int .i64 n, .int .i64 x, .int .i64 y]) (fun k _ => 3 - (RowKit.intOf k).toNat)
  case atStart => exact ⟨0, by omega, rfl, hg0, hP⟩
  case round =>
    obtain ⟨jj, hj, rfl, hg, hPr⟩ := hrel
    clear hP hg0
    by_cases cj : jj < 3
    · have q2 : decide ((jj : Int) < 3) = true := decide_eq_true (by omega)
      obtain ⟨a', n0, hab⟩ : ∃ a' : Int, wr.cell? ⟨w.heap.size, jj, none⟩ = some (.int .i64 a') ∧ (-9223372036854775808 ≤ a' ∧ a' ≤ 9223372036854775807) := by
        rcases (show jj = 0 ∨ jj = 1 ∨ jj = 2 by omega) with rfl | rfl | rfl
        · exact ⟨n, hPr.three.2.1, hn⟩
        · exact ⟨x, hPr.three.2.2.1, hxb⟩
        · exact ⟨y, hPr.three.2.2.2.1, hyb⟩
      have hPx := hPr.lt
      have hPr := Lib.hid hPr
      have hfew : (fewS ++ s).size ≤ 1500000 := by
        rw [ByteArray.size_append]
        have : fewS.size = 39 := by decide +kernel
        omega
      have HA1 : Hid (∀ w', Calls Tryd.prog 19 #[.string s, .int .i64 a'] w' fun e w'' => ∃ v, e = .returned v ∧ Gr w' w'' ∧ StrsR w'' v (wrapP a' s)) := fun w' => H1.out s a' w' (by omega) hab
      have HA2 : Hid (∀ w', Calls Tryd.prog 20 #[.string s, .int .i64 a'] w' fun e w'' => ∃ v, e = .returned v ∧ Gr w' w'' ∧ StrsR w'' v (wrapP a' s)) := fun w' => H2.out s a' w' (by omega) hab
      have HB1 : Hid (∀ w', Calls Tryd.prog 19 #[.string (fewS ++ s), .int .i64 a'] w' fun e w'' => ∃ v, e = .returned v ∧ Gr w' w'' ∧ StrsR w'' v (wrapP a' (fewS ++ s))) := fun w' => H1.out _ a' w' hfew hab
      have HB2 : Hid (∀ w', Calls Tryd.prog 20 #[.string (fewS ++ s), .int .i64 a'] w' fun e w'' => ∃ v, e = .returned v ∧ Gr w' w'' ∧ StrsR w'' v (wrapP a' (fewS ++ s))) := fun w' => H2.out _ a' w' hfew hab
      have hL1 := wrapP_len a' s (by omega)
      have hL2 := wrapP_len a' (fewS ++ s) (by omega)
      generalize wrapP a' s = L1 at HA1 HA2 hL1
      generalize wrapP a' (fewS ++ s) = L2 at HB1 HB2 hL2
      clear H1 H2
      go_wp2_with (first
        | (go_at_call 19; (with_reducible refine (HA1.out _).mono ?_); rintro e w2 ⟨v1, rfl, hg2, hS1⟩; obtain ⟨p1, c1, rfl, hh⟩ := hS1.shape; clear hh; have hS1 := Lib.hid hS1)
        | (go_at_call 20; (with_reducible refine (HA2.out _).mono ?_); rintro e w3 ⟨v2, rfl, hg3, hS2⟩; obtain ⟨p2, c2, rfl, hh⟩ := hS2.shape; clear hh; have hS2 := Lib.hid hS2)
        | (go_at_call 18; (with_reducible refine (HS.out _ _ L1 _ hL1 (hS1.out.gr hg3) hS2.out).mono ?_); rintro e w4 ⟨rfl, hg4⟩)
        | (go_at_call 19; (with_reducible refine (HB1.out _).mono ?_); rintro e w5 ⟨v3, rfl, hg5, hS3⟩; obtain ⟨p3, c3, rfl, hh⟩ := hS3.shape; clear hh; have hS3 := Lib.hid hS3)
        | (go_at_call 20; (with_reducible refine (HB2.out _).mono ?_); rintro e w6 ⟨v4, rfl, hg6, hS4⟩; obtain ⟨p4, c4, rfl, hh⟩ := hS4.shape; clear hh; have hS4 := Lib.hid hS4)
        | (go_at_call 18; (with_reducible refine (HS.out _ _ L2 _ hL2 (hS3.out.gr hg6) hS4.out).mono ?_); rintro e w7 ⟨rfl, hg7⟩))
      have hgB := ((((hg2.trans hg3).trans hg4).trans hg5).trans hg6).trans hg7
      go_roundw
      case rel => exact ⟨jj + 1, by omega, by go_num, hg.trans hgB, hPr.out.gr hgB⟩
      case measure => simp [RowKit.intOf]; omega
    · have q2 : decide ((jj : Int) < 3) = false := decide_eq_false (by omega)
      go_wp2_with (go_at_call 17; (with_reducible refine (HW.out _ hg).mono ?_); rintro e w5 ⟨rfl, hg5⟩)
      go_ret
      exact ⟨rfl, (by repeat (first | with_reducible exact Gr.refl _ | with_reducible assumption | refine Gr.setCell ?_ (by first | omega | (simp; done) | (simp; omega)) _ | refine Gr.alloc ?_ _ | refine Gr.drew ?_ | refine Gr.drewN ?_ _ | refine Gr.trans ?_ (by with_reducible assumption)))⟩
end Go.Proofs.YtckmebfgianeoaaDoor
