/-
  Contracts of the comparison of captions and of slices.SortStableFunc of a list of captions.
  Conditions: at most 20 captions.
-/
import Derived.Test.YtckmebfgianeoaaDoorMathU
import Derived.Test.YtckmebfgianeoaaDoorSort
import Derived.Test.YtckmebfgianeoaaDoorShelf
import Derived.Test.YtckmebfgianeoaaDoorFint
import Derived.Test.YtckmebfgianeoaaDoorWalkCu
import Derived.Outline
import Derived.Shelf.SlSortCmp.QuietGrown
namespace Go.Proofs.YtckmebfgianeoaaDoor
open Go.RowKit Go.Lib Go.Sort
set_option linter.unusedSimpArgs false
set_option linter.unusedVariables false

theorem or_any (x y : Int) (b : Nat) (w : World) (hb : b < w.heap.size) (h0 : w.cell? ⟨b, 0, none⟩ = some (.int .i64 x)) (h1 : w.cell? ⟨b, 1, none⟩ = some (.int .i64 y)) :
    Calls Tryd.prog 64 #[.slice (some ⟨b, 0, none⟩) 2 2] w fun e w' => e = .returned (.int .i64 (if x ≠ 0 then x else y)) ∧ w' = w := by
  obtain ⟨r, hr⟩ : ∃ r, (if x ≠ 0 then x else y) = r := ⟨_, rfl⟩
  rw [hr]
  replace hr := Lib.hid hr
  go_enter Tryd.func64, Tryd.ntmps64
  go_wp2
  go_loopw [8] (fun i wr => ∃ j : Nat, i = .int .i64 j ∧ j ≤ 2 ∧ wr = w ∧ (j = 0 ∨ x = 0) ∧ (j ≤ 1 ∨ y = 0)) (fun i _ => 2 - (RowKit.intOf i).toNat)
  case atStart => exact ⟨0, rfl, by omega, by simp, .inl rfl, .inl (by omega)⟩
  case round =>
    obtain ⟨j, rfl, hj, hw, hx, hy⟩ := hrel
    subst hw
    rcases (show j = 0 ∨ j = 1 ∨ j = 2 by omega) with rfl | rfl | rfl
    · by_cases h : x = 0
      · have q1 : (x != 0) = false := by simp [h]
        go_wp2
        go_roundw
        case rel => exact ⟨1, rfl, by omega, by simp, .inr h, .inl (by omega)⟩
        case measure => decide
      · have q1 : (x != 0) = true := by simp [h]
        have hr2 : Hid (x = r) := by refine Lib.hid ?_; have := hr.out; rwa [if_pos h] at this
        go_wp2
        go_ret
        exact ⟨ret_int hr2.out, rfl⟩
    · have h : x = 0 := by omega
      have hr2 : y = r := by have := hr.out; rwa [if_neg (by omega)] at this
      by_cases h2 : y = 0
      · have q1 : (y != 0) = false := by simp [h2]
        go_wp2
        go_roundw
        case rel => exact ⟨2, rfl, by omega, by simp, .inr h, .inr h2⟩
        case measure => decide
      · have q1 : (y != 0) = true := by simp [h2]
        clear hr
        subst hr2
        go_wp2
        go_ret
        exact ⟨rfl, rfl⟩
    · have h : x = 0 := by omega
      have h2 : y = 0 := by omega
      have hr2 : Hid (0 = r) := by refine Lib.hid ?_; have := hr.out; rw [if_neg (by omega), h2] at this; exact this
      go_wp2
      go_ret
      exact ⟨ret_int hr2.out, rfl⟩

set_option maxHeartbeats 1000000 in
theorem repCmp_any (x y : Cu) (W : World) : Calls Tryd.prog 63 #[x.val, y.val] W fun e w' => e = .returned (.int .i64 (cfC x y)) ∧ ∃ q os', w' = grow (W.drewN q) os' := by
  obtain ⟨xf, xt, xl, xs⟩ := x
  obtain ⟨yf, yt, yl, ys⟩ := y
  have HC := Lib.hid (fun (a b : Int) w => Tryd.cmp_Compare_int a b w)
  have mixed : Tryd.prog.follows .mixedOrders = true := by kernel_rfl
  unfold cfC Cu.val
  simp only
  have H1 : Hid (∀ w, Calls Tryd.prog 65 #[.int .i64 xf, .int .i64 yf] w fun e w' => e = .returned (.int .i64 (Lib.compareInt xf yf)) ∧ w' = w) := fun w => HC.out xf yf w
  have H2 : Hid (∀ w, Calls Tryd.prog 65 #[.int .i64 xt, .int .i64 yt] w fun e w' => e = .returned (.int .i64 (Lib.compareInt xt yt)) ∧ w' = w) := fun w => HC.out xt yt w
  clear HC
  generalize Lib.compareInt xf yf = r1 at H1 ⊢
  generalize Lib.compareInt xt yt = r2 at H2 ⊢
  obtain ⟨r, hr⟩ : ∃ r, (if r1 ≠ 0 then r1 else r2) = r := ⟨_, rfl⟩
  rw [hr]
  replace hr := Lib.hid hr
  go_enter Tryd.func63, Tryd.ntmps63
  go_wp2
  have k0 := Cel.new W #[.int .i64 xf, .int .i64 xt, xl] 66 |>.alloc (.cells #[.int .i64 yf, .int .i64 yt, yl] 66)
  have k1 := Cel.new (W.alloc (.cells #[.int .i64 xf, .int .i64 xt, xl] 66)) #[.int .i64 yf, .int .i64 yt, yl] 66
  have hE : ∃ os, (W.alloc (.cells #[.int .i64 xf, .int .i64 xt, xl] 66)).alloc (.cells #[.int .i64 yf, .int .i64 yt, yl] 66) = grow (W.drewN 0) os := ⟨_, by rw [alloc_eq_grow, alloc_eq_grow, grow_grow]; rfl⟩
  have hE := Lib.hid hE
  rw [show (W.alloc (.cells #[.int .i64 xf, .int .i64 xt, xl] 66)).heap.size = W.heap.size + 1 by simp] at k1
  generalize (W.alloc (.cells #[.int .i64 xf, .int .i64 xt, xl] 66)).alloc (.cells #[.int .i64 yf, .int .i64 yt, yl] 66) = V at *
  have c0 : ∀ n os, (grow (V.drewN n) os).cell? ⟨W.heap.size, 0, none⟩ = some (.int .i64 xf) := fun n os => cell_grown k0.lt k0.three.2.1 n os
  have c1 : ∀ n os, (grow (V.drewN n) os).cell? ⟨W.heap.size, 1, none⟩ = some (.int .i64 xt) := fun n os => cell_grown k0.lt k0.three.2.2.1 n os
  have c2 : ∀ n os, (grow (V.drewN n) os).cell? ⟨W.heap.size + 1, 0, none⟩ = some (.int .i64 yf) := fun n os => cell_grown k1.lt k1.three.2.1 n os
  have c3 : ∀ n os, (grow (V.drewN n) os).cell? ⟨W.heap.size + 1, 1, none⟩ = some (.int .i64 yt) := fun n os => cell_grown k1.lt k1.three.2.2.1 n os
  clear k0 k1
  have G1 : Hid (∀ n os, Calls Tryd.prog 65 #[.int .i64 xf, .int .i64 yf] (grow (V.drewN n) os) fun e w' => e = .returned (.int .i64 r1) ∧ ∃ q os', w' = grow ((grow (V.drewN n) os).drewN q) os') := fun n os => (H1.out _).mono fun e w' ⟨h1, h2⟩ => ⟨h1, 0, #[], by rw [h2, grow_empty]; rfl⟩
  have G2 : Hid (∀ n os, Calls Tryd.prog 65 #[.int .i64 xt, .int .i64 yt] (grow (V.drewN n) os) fun e w' => e = .returned (.int .i64 r2) ∧ ∃ q os', w' = grow ((grow (V.drewN n) os).drewN q) os') := fun n os => (H2.out _).mono fun e w' ⟨h1, h2⟩ => ⟨h1, 0, #[], by rw [h2, grow_empty]; rfl⟩
  refine wp_region_head (C := fun w' => ∃ p : GrownBy, w' = grow (V.drewN p.n) p.os) 10 mixed (by kernel_rfl) ⟨⟨1, #[]⟩, by rw [grow_empty]; rfl⟩ ?_
  simp only [List.take_succ_cons, List.take_zero, List.drop_succ_cons, List.drop_zero]
  simp
  repeat (quiet_step (first | (go_at_call 65; first | (with_reducible refine Calls.grown_of (G1.out _ _)) | (with_reducible refine Calls.grown_of (G2.out _ _)))))
  refine wpQuiet_nil ?_
  rintro ⟨nq, osq⟩
  obtain ⟨os0, hE⟩ := hE.out
  obtain ⟨U, hU⟩ : ∃ U, grow (V.drewN nq) osq = U := ⟨_, rfl⟩
  rw [show grow (V.drewN (GrownBy.mk nq osq).n) (GrownBy.mk nq osq).os = U from hU]
  have hU : ∃ q os, U = grow (W.drewN q) os := ⟨0 + nq, os0 ++ osq, by rw [← hU, hE]; show grow (grow ((W.drewN 0).drewN nq) os0) osq = _; rw [grow_grow, World.drewN_drewN]⟩
  have hU := Lib.hid hU
  have HO : Hid (Calls Tryd.prog 64 #[.slice (some ⟨U.heap.size, 0, none⟩) 2 2] (U.alloc (.cells #[.int .i64 r1, .int .i64 r2] 3)) fun e w' => e = .returned (.int .i64 r) ∧ w' = U.alloc (.cells #[.int .i64 r1, .int .i64 r2] 3)) := by rw [← hr.out]; exact or_any r1 r2 U.heap.size _ (by simp) (by simp) (by simp)
  clear hE G1 G2 c0 c1 c2 c3 H1 H2
  go_wp2_with (go_at_call 64; (with_reducible refine HO.out.mono ?_); rintro e w' ⟨rfl, rfl⟩)
  go_ret
  obtain ⟨q, os, hU⟩ := hU.out
  exact ⟨rfl, q, _, by rw [alloc_eq_grow, hU, grow_grow]⟩

def oneV (v : Value) : Value := if v.oneCell' = true then v else .slice none 0 0
theorem oneV_one (v : Value) : (oneV v).oneCell' = true := by
  unfold oneV
  split
  · assumption
  · rfl
def encT (x : TC) : List Value := [.int .i64 x.1.f, .int .i64 x.1.t, oneV x.1.lv]
theorem encT_len (x : TC) : (encT x).length = 3 := rfl
theorem encT_one : ∀ x : TC, ∀ v ∈ encT x, v.oneCell' = true := by
  intro x v hv
  simp [encT] at hv
  rcases hv with rfl | rfl | rfl
  · rfl
  · rfl
  · exact oneV_one _
theorem encT_cells {x : TC} (h : x.1.lv.oneCell' = true) : encT x = x.1.cells := by
  unfold encT oneV
  rw [if_pos h]
  rfl
set_option maxHeartbeats 1000000 in
/-- the sort of at most 19 captions -/
theorem sort_core (blk off cap : Nat) (d : Array TC) (w : World) (hH : HoldsK encT 3 w blk off d) (hblk : blk < w.heap.size) (hn : d.size < 20) :
    Calls Tryd.prog 62 #[.slice (some ⟨blk, off, none⟩) d.size cap, .func (.func 63) #[] #[]] w fun e w' => e = .returned (.tuple #[]) ∧ ∃ n os, w' = sortWorldK encT 3 w blk off n (Sort.insertionSort ltT d 0 d.size) os := by
  have eg : ∀ args w, (callFunc 63 args).run Tryd.prog w = .ok (.enter 63 args) w := enters_of Tryd.func63 (by kernel_rfl) rfl
  have hcmp : CmpLays Tryd.prog 63 #[] encT 3 cfT blk off d.size w := fun m os dk hs x y => repCmp_any ⟨x.1.f, x.1.t, oneV x.1.lv, []⟩ ⟨y.1.f, y.1.t, oneV y.1.lv, []⟩ _
  have hi := AnyQ.insertionSortCmpFunc Tryd.insSort 3 Tryd.isAgg66 Tryd.sizeOf66 encT encT_len encT_one cfT 63 #[] blk off cap 0 d.size d w eg hcmp hH hblk (Nat.zero_le _) (Nat.le_refl _) (by omega)
  rw [ltOf_cfT] at hi
  change Calls Tryd.prog 102 _ _ _ at hi
  clear hcmp hH
  generalize Sort.insertionSort ltT d 0 d.size = r at hi ⊢
  have hi : Hid (Calls Tryd.prog 102 #[.slice (some ⟨blk, off, none⟩) d.size cap, .int .i64 0, .int .i64 d.size, .func (.func 63) #[] #[]] w fun e w' => e = .returned (.tuple #[]) ∧ ∃ n os, w' = sortWorldK encT 3 w blk off n r os) := hi
  have q1 : decide ((20 : Int) ≤ (d.size : Int)) = false := decide_eq_false (by omega)
  have q2 : decide ((20 : Int) < (d.size : Int)) = false := decide_eq_false (by omega)
  have HS : Hid (Calls Tryd.prog 83 #[.slice (some ⟨blk, off, none⟩) d.size cap, .int .i64 d.size, .func (.func 63) #[] #[]] w fun e w' => e = .returned (.tuple #[]) ∧ ∃ n os, w' = sortWorldK encT 3 w blk off n r os) := by
    refine Lib.hid ?_
    go_enter Tryd.func83, Tryd.ntmps83
    go_wp2
    refine wp_loop_rounds 1 ?_
    rw [rounds_succ]
    go_wp2_with (go_at_call 102; (with_reducible refine hi.out.mono ?_); rintro e w' ⟨rfl, n, os, rfl⟩)
    refine wp_loop_rounds 1 ?_
    rw [rounds_succ]
    go_wp2
    go_end0
    exact ⟨rfl, n, os, rfl⟩
  go_enter Tryd.func62, Tryd.ntmps62
  go_wp2_with (go_at_call 83; (with_reducible refine HS.out.mono ?_); rintro e w' ⟨rfl, n, os, rfl⟩)
  go_end0
  exact ⟨rfl, n, os, rfl⟩
set_option maxHeartbeats 1000000 in
theorem sort_nil (a : Option Addr) (cap : Nat) (w : World) :
    Calls Tryd.prog 62 #[.slice a 0 cap, .func (.func 63) #[] #[]] w fun e w' => e = .returned (.tuple #[]) ∧ w' = w := by
  have HI : Hid (Calls Tryd.prog 102 #[.slice a 0 cap, .int .i64 0, .int .i64 0, .func (.func 63) #[] #[]] w fun e w' => e = .returned (.tuple #[]) ∧ w' = w) := by
    refine Lib.hid ?_
    go_enter Tryd.func102, Tryd.ntmps102
    go_wp2
    refine wp_loop_rounds 1 ?_
    rw [rounds_succ]
    go_wp2
    go_end0
    exact ⟨rfl, rfl⟩
  have HS : Hid (Calls Tryd.prog 83 #[.slice a 0 cap, .int .i64 0, .func (.func 63) #[] #[]] w fun e w' => e = .returned (.tuple #[]) ∧ w' = w) := by
    refine Lib.hid ?_
    go_enter Tryd.func83, Tryd.ntmps83
    go_wp2
    refine wp_loop_rounds 1 ?_
    rw [rounds_succ]
    go_wp2_with (go_at_call 102; (with_reducible refine HI.out.mono ?_); rintro e w' ⟨rfl, rfl⟩)
    refine wp_loop_rounds 1 ?_
    rw [rounds_succ]
    go_wp2
    go_end0
    exact ⟨rfl, rfl⟩
  go_enter Tryd.func62, Tryd.ntmps62
  go_wp2_with (go_at_call 83; (with_reducible refine HS.out.mono ?_); rintro e w' ⟨rfl, rfl⟩)
  go_end0
  exact ⟨rfl, rfl⟩
end Go.Proofs.YtckmebfgianeoaaDoor
