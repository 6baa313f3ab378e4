/-
  Walk of the law CaptionsFollow.
  Conditions: the numbers lie in memory.
-/
import Derived.Test.YthadhmhbbfjomaaGreatDoorWalkAw
import Derived.Test.YthadhmhbbfjomaaGreatDoorWalkOd
import Derived.Test.YthadhmhbbfjomaaGreatDoorMathFy
import Derived.Test.YthadhmhbbfjomaaGreatDoorWalkTx
import Derived.Test.YthadhmhbbfjomaaGreatDoorCarZ
import Derived.Deep.DeepCutAuto
import Derived.Deep.CutBlock
import Derived.Great.BuildSlice
import Derived.Test.YthadhmhbbfjomaaGreatDoorOpenBy
namespace Go.Proofs.YthadhmhbbfjomaaGreatDoor
open Go.RowKit Go.Lib
set_option linter.unusedSimpArgs false
set_option linter.unusedVariables false

theorem infoRun : (Tryz.prog.info? 40).map (fun i => (i.zero, i.size, i.bytes)) = some (some (.agg #[.string ByteArray.empty, .int .i64 0, .int .i64 0, .int .i64 0]), 4, 40) := by kernel_rfl
abbrev nmA : ByteArray := ⟨#[97]⟩

/-- the same, as a step of a walk -/
theorem wpList_bs1f {P : Program} {ops : Array Oper} {rest : List Oper} {o : Oper} {a : Act} {w : World} {Q : Exit → Act → World → Prop} (hg : o.guard = none) (t e : TypeId) (x : Operand) (ho : o.op = .buildSlice t 1 #[(0, x)]) (n : Nat)
    (hu : P.underlying t = some (.slice e)) (hi : (P.info? e).map (fun i => (i.zero.map fun z => z.cells.size, i.size)) = some (some n, n)) (h0 : 0 < n) (h9 : n ≤ 16777216) (l : List Value) (hl : l.length = n) (hx : a.eval x = .agg l.toArray)
    (h : wpList P ops Q rest (a.put o.dst (.slice (some ⟨w.heap.size, 0, none⟩) 1 1)) (w.alloc (.cells l.toArray e))) : wpList P ops Q (o :: rest) a w := by
  cases hq : P.info? e with
  | none => simp [hq] at hi
  | some ie =>
    cases hz : ie.zero with
    | none => simp [hq, hz] at hi
    | some z =>
      simp [hq, hz] at hi
      refine wpList_buildSlice hg t e 1 _ ho _ ie z hu hq hz (by rw [hi.2]; omega) (by rw [hi.2]; omega) ?_ h
      have := Great.fill_whole h0 [Value.agg l.toArray] ((Array.range (1 * ie.size)).map (z.cells[· % z.cells.size]!)) (fun v hv => by rw [List.mem_singleton.1 hv]; simpa [Value.cells] using hl) (by simp [hi.2])
      simpa [hi.2, Value.cells, hx] using this
def seqL : List Value := [.int .i64 0, .int .i64 0, .int .i64 25, .int .i64 1, .bool false, .int .i64 0, .int .i64 0] ++ List.replicate 128 (.int .u8 0)
def medL (lv : Value) : List Value := [.string nmA, .int .u64 0] ++ seqL ++ [.int .i64 500, .int .i64 0, .int .i64 0, lv]
theorem medL_ok (a : Option Addr) (n c : Nat) : MedR (medL (.slice a n c)) nmA 500 (.slice a n c) where
  n := rfl
  one := fun v hv => by
    unfold medL seqL at hv
    simp only [List.mem_append, List.mem_cons, List.not_mem_nil, or_false, List.mem_replicate] at hv
    rcases hv with (((rfl | rfl) | (rfl | rfl | rfl | rfl | rfl | rfl | rfl) | ⟨_, rfl⟩) | (rfl | rfl | rfl | rfl)) <;> rfl
  c0 := rfl
  c4 := rfl
  c5 := rfl
  c137 := rfl
  c138 := rfl
  c139 := rfl
  c140 := rfl
set_option maxRecDepth 20000 in
set_option maxHeartbeats 8000000 in
theorem lawFoll_walk (a : Option Addr) (cap : Nat) (xs : List Int) (qa : Option Addr) (qc : Nat) (ys : List Int) (w : World) (hA : TapeArg w a cap xs) (hB : BytesArg w qa qc ys) (hT : Pow w) :
    Calls Tryz.prog 3 #[.slice a xs.length cap, .slice qa ys.length qc] w fun e w' => e = .returned (.bool true) ∧ Gr w w' := by
  have HM : Hid (Calls Tryz.prog 4 #[.slice a xs.length cap] w fun e w' => ∃ v cs, e = .returned v ∧ Gr w w' ∧ Cues w' v cs ∧ Made cs ∧ ordB cs = true) := ordered_any a cap xs w hA
  have HW : Hid (∀ w', Gr w w' → Calls Tryz.prog 10 #[] w' fun e w'' => e = .returned (.bool true) ∧ Gr w' w'') := fun w' hg => awake_any w' (Pow.gr hg hT)
  have hBh := Lib.hid hB
  have hTh := Lib.hid hT
  clear hB
  go_enter Tryz.func3, Tryz.ntmps3
  go_upto_region 2 with ((go_at_call 4; (with_reducible refine HM.out.mono ?_); rintro e w1 ⟨lv, cs, rfl, hg1, hL, hMd, hO⟩; obtain ⟨lp, lc, hlv, hlh⟩ := hL.at_.shape; clear hlh; subst hlv; have hMd := Lib.hid hMd; have hL := Lib.hid hL; have hO := Lib.hid hO))
  obtain ⟨SL, hSL⟩ : ∃ SL, seqL = SL := ⟨_, rfl⟩
  obtain ⟨ML, hML⟩ : ∃ ML, medL (.slice lp cs.length lc) = ML := ⟨_, rfl⟩
  have hM : MedR ML nmA 500 (.slice lp cs.length lc) := by rw [← hML]; exact medL_ok _ _ _
  replace hSL := Lib.hid hSL
  replace hML := Lib.hid hML
  go_upto_region 3 with (first
    | (refine wpList_buildTo rfl 30 #[(2, .tmp 27)] rfl (some 28) rfl SL.toArray (by rw [← hSL.out]; kernel_rfl) ?_)
    | (refine wpList_buildTo rfl 33 #[(0, .const (.string ⟨#[97]⟩)), (2, .tmp 28), (3, .const (.int .i64 500)), (6, .tmp 29)] rfl (some 30) rfl ML.toArray (by rw [← hML.out]; show _ = some _; simp only [Act.eval]; rw [← hSL.out]; kernel_rfl) ?_)
    | (refine wpList_bs1f rfl 34 33 (.tmp 30) rfl 141 Tryz.underlying34 (by as_aux_lemma => kernel_rfl) (by decide) (by decide) ML hM.n rfl ?_))
  have hgV : Gr w ((w1.alloc (.cells ML.toArray 33)).alloc (.cells #[.slice (some ⟨w1.heap.size, 0, none⟩) 1 1, .slice none 0 0] 37)) := (hg1.alloc _).alloc _
  have hbM := (Blk.new w1 ML 33).gr ((Gr.refl _).alloc (.cells #[.slice (some ⟨w1.heap.size, 0, none⟩) 1 1, .slice none 0 0] 37))
  have hbP := blk_new_at (w := w1.alloc (.cells ML.toArray 33)) (k := w1.heap.size + 1) (by simp) [.slice (some ⟨w1.heap.size, 0, none⟩) 1 1, .slice none 0 0] 37
  have hLV := hL.out.gr (((Gr.refl w1).alloc (.cells ML.toArray 33)).alloc (.cells #[.slice (some ⟨w1.heap.size, 0, none⟩) 1 1, .slice none 0 0] 37))
  generalize (w1.alloc (.cells ML.toArray 33)).alloc (.cells #[.slice (some ⟨w1.heap.size, 0, none⟩) 1 1, .slice none 0 0] 37) = V at *
  obtain ⟨MB, hMB⟩ : ∃ MB, w1.heap.size = MB := ⟨_, rfl⟩
  rw [hMB] at hbM hbP ⊢
  clear hMB
  replace hL := Lib.hid hLV
  clear hLV hg1
  replace hbM := Lib.hid hbM
  replace hbP := Lib.hid hbP
  replace hM := Lib.hid hM
  have hBV := Lib.hid (hBh.out.gr hgV)
  obtain ⟨ir, hir, hir0, hir1, hir2⟩ := info_parts infoRun
  go_upto_block 0 with fail
  go_cut [7, 8] (fun rv av wx => ∃ (rs : List Rn) (A : Int), av = .int .i64 A ∧ rs.length ≤ 8 ∧ 0 ≤ A ∧ A ≤ 184 ∧ Gr V wx ∧ Rd wx rv rs.length 4 (rflat nmA rs) ∧ Hid (RunsOk 0 rs ∧ endR 0 rs ≤ A ∧ ∀ r ∈ rs, r.film + r.len ≤ A))
  case first =>
--@A
    go_wp2
    go_loopw [7, 8, 9, 10] (fun rv av fv iv wr => ∃ (ii : Nat) (rs : List Rn) (A F : Int), iv = .int .i64 ii ∧ av = .int .i64 A ∧ fv = .int .i64 F ∧ ii ≤ 8 ∧ ii ≤ ys.length ∧ rs.length = ii ∧ 0 ≤ A ∧ A ≤ 23 * ii ∧ 0 ≤ F ∧ F ≤ 27 * ii ∧ Gr V wr ∧ wr.ownsRow V.heap.size 40 4 rv rs.length (rflat nmA rs) ∧ Hid (RunsOk 0 rs ∧ endR 0 rs ≤ A ∧ ∀ r ∈ rs, r.film + r.len ≤ A)) (fun _ _ _ iv _ => 8 - (RowKit.intOf iv).toNat)
    case atStart => exact ⟨0, [], 0, 0, rfl, rfl, rfl, by omega, by omega, rfl, by omega, by omega, by omega, by omega, Gr.refl _, World.ownsRow_nil _ _ _ _, Lib.hid ⟨trivial, Int.le_refl _, fun r hr => (by cases hr)⟩⟩
    case round =>
      obtain ⟨ii, rs, A, F, rfl, rfl, rfl, h8, hy, hrl, hA0, hA1, hF0, hF1, hg, hown, hrs⟩ := hrel
      obtain ⟨ra, rc, rfl⟩ := own_shape hown
      by_cases c0 : ii < ys.length ∧ ii < 8
      · obtain ⟨c1, c2⟩ := c0
        have q1 : decide (ii < ys.length) = true := decide_eq_true c1
        have q2 : decide ((ii : Int) < 8) = true := decide_eq_true (by omega)
        obtain ⟨yb, yo, qc', hqv, hyb, hyc⟩ := (hBV.out.rd.gr hg).addr (by omega)
        injection hqv with e1 e2 e3
        subst e1 e3
        clear e2
        obtain ⟨y, hyy⟩ : ∃ y, ys[ii] = y := ⟨_, rfl⟩
        have hye := hyc ii (.int .u8 y) (by rw [List.getElem?_map, List.getElem?_eq_getElem c1, hyy]; rfl)
        have hy0 := hBV.out.ok _ (List.getElem_mem c1)
        rw [hyy] at hy0
        obtain ⟨m, hm⟩ : ∃ m, y.tmod 20 = m := ⟨_, rfl⟩
        have hm0 : 0 ≤ m ∧ m < 20 := by rw [← hm]; exact ⟨Int.tmod_nonneg _ hy0.1, Int.tmod_lt_of_pos _ (by omega)⟩
        clear hyc hyy
        replace hrs := Lib.hid hrs
        replace hown := Lib.hid hown
        cases hb1 : (bits BinOp.and IntKind.u8 y 32 != 0) <;> cases hb2 : (bits BinOp.and IntKind.u8 y 64 != 0)
        · as_aux_lemma =>
          have hrs2 : Hid (RunsOk 0 (rs ++ [Rn.mk A F (m + 1)]) ∧ endR 0 (rs ++ [Rn.mk A F (m + 1)]) ≤ A + (m + 1) ∧ ∀ r ∈ rs ++ [Rn.mk A F (m + 1)], r.film + r.len ≤ A + (m + 1)) := by
            obtain ⟨k1, k2, k3⟩ := hrs.out.out
            refine Lib.hid ⟨k1.snoc (by simp only; omega) (by simp only; omega) (by simp only; omega) (by simp only; omega) (by simp only; omega) (by simp only; omega), by rw [endR_snoc]; exact Int.le_refl _, fun r hr => ?_⟩
            rcases List.mem_append.1 hr with h | h
            · have := k3 r h
              omega
            · rw [List.mem_singleton.1 h]
              exact Int.le_refl _
          go_wp2_with (at_builtin; go_loud ((refine wpList_append_rd rfl (.tmp 66) (.tmp 71) 38 rfl V.heap.size 40 ir (.agg #[.string ByteArray.empty, .int .i64 0, .int .i64 0, .int .i64 0]) 4 40 (by as_aux_lemma => kernel_rfl) hir hir0 hir1 hir2 rfl (by decide) _ _ _ rfl (hown.out.alloc _) _ 1 [.string nmA, .int .i64 A, .int .i64 F, .int .i64 (m + 1)] rfl (Rd.new wr #[.string nmA, .int .i64 A, .int .i64 F, .int .i64 (m + 1)] 40 1 4 1 rfl) ?_ ?_ ?_ ?_ ?_); (· intro u hu; simp at hu; rcases hu with rfl | rfl | rfl | rfl <;> rfl); (· unfold maxLen; omega); (· omega); (· have := hg.size; simp; omega); intro v3 w3 hown3 hgrow3))
          have hgn : Gr wr (wr.alloc (.cells #[.string nmA, .int .i64 A, .int .i64 F, .int .i64 (m + 1)] 40)) := (Gr.refl wr).alloc _
          have hge := own_ge hown.out
          have hg3 : Gr V w3 := (hg.trans hgn).grown hgrow3 (fun k hk => by have := hge k hk; omega)
          have hown4 : w3.ownsRow V.heap.size 40 4 v3 (rs ++ [Rn.mk A F (m + 1)]).length (rflat nmA (rs ++ [Rn.mk A F (m + 1)])) := by
            rw [List.length_append, List.length_singleton, show rflat nmA (rs ++ [Rn.mk A F (m + 1)]) = rflat nmA rs ++ [.string nmA, .int .i64 A, .int .i64 F, .int .i64 (m + 1)] by unfold rflat; rw [List.flatMap_append]; rfl]
            exact hown3
          clear hown3 hgrow3 hown hge
          exact ⟨⟨ii + 1, rs ++ [Rn.mk A F (m + 1)], A + (m + 1), F + (m + 1), by go_num, rfl, rfl, by omega, by omega, by rw [List.length_append, List.length_singleton, hrl], by omega, by omega, by omega, by omega, hg3, hown4, hrs2⟩, by simp [RowKit.intOf]; omega⟩
        · as_aux_lemma =>
          have hrs2 : Hid (RunsOk 0 (rs ++ [Rn.mk (A + 3) F (m + 1)]) ∧ endR 0 (rs ++ [Rn.mk (A + 3) F (m + 1)]) ≤ (A + 3) + (m + 1) ∧ ∀ r ∈ rs ++ [Rn.mk (A + 3) F (m + 1)], r.film + r.len ≤ (A + 3) + (m + 1)) := by
            obtain ⟨k1, k2, k3⟩ := hrs.out.out
            refine Lib.hid ⟨k1.snoc (by simp only; omega) (by simp only; omega) (by simp only; omega) (by simp only; omega) (by simp only; omega) (by simp only; omega), by rw [endR_snoc]; exact Int.le_refl _, fun r hr => ?_⟩
            rcases List.mem_append.1 hr with h | h
            · have := k3 r h
              omega
            · rw [List.mem_singleton.1 h]
              exact Int.le_refl _
          go_wp2_with (at_builtin; go_loud ((refine wpList_append_rd rfl (.tmp 66) (.tmp 71) 38 rfl V.heap.size 40 ir (.agg #[.string ByteArray.empty, .int .i64 0, .int .i64 0, .int .i64 0]) 4 40 (by as_aux_lemma => kernel_rfl) hir hir0 hir1 hir2 rfl (by decide) _ _ _ rfl (hown.out.alloc _) _ 1 [.string nmA, .int .i64 (A + 3), .int .i64 F, .int .i64 (m + 1)] rfl (Rd.new wr #[.string nmA, .int .i64 (A + 3), .int .i64 F, .int .i64 (m + 1)] 40 1 4 1 rfl) ?_ ?_ ?_ ?_ ?_); (· intro u hu; simp at hu; rcases hu with rfl | rfl | rfl | rfl <;> rfl); (· unfold maxLen; omega); (· omega); (· have := hg.size; simp; omega); intro v3 w3 hown3 hgrow3))
          have hgn : Gr wr (wr.alloc (.cells #[.string nmA, .int .i64 (A + 3), .int .i64 F, .int .i64 (m + 1)] 40)) := (Gr.refl wr).alloc _
          have hge := own_ge hown.out
          have hg3 : Gr V w3 := (hg.trans hgn).grown hgrow3 (fun k hk => by have := hge k hk; omega)
          have hown4 : w3.ownsRow V.heap.size 40 4 v3 (rs ++ [Rn.mk (A + 3) F (m + 1)]).length (rflat nmA (rs ++ [Rn.mk (A + 3) F (m + 1)])) := by
            rw [List.length_append, List.length_singleton, show rflat nmA (rs ++ [Rn.mk (A + 3) F (m + 1)]) = rflat nmA rs ++ [.string nmA, .int .i64 (A + 3), .int .i64 F, .int .i64 (m + 1)] by unfold rflat; rw [List.flatMap_append]; rfl]
            exact hown3
          clear hown3 hgrow3 hown hge
          exact ⟨⟨ii + 1, rs ++ [Rn.mk (A + 3) F (m + 1)], (A + 3) + (m + 1), F + (m + 1), by go_num, rfl, rfl, by omega, by omega, by rw [List.length_append, List.length_singleton, hrl], by omega, by omega, by omega, by omega, hg3, hown4, hrs2⟩, by simp [RowKit.intOf]; omega⟩
        · as_aux_lemma =>
          have hrs2 : Hid (RunsOk 0 (rs ++ [Rn.mk A (F + 7) (m + 1)]) ∧ endR 0 (rs ++ [Rn.mk A (F + 7) (m + 1)]) ≤ A + (m + 1) ∧ ∀ r ∈ rs ++ [Rn.mk A (F + 7) (m + 1)], r.film + r.len ≤ A + (m + 1)) := by
            obtain ⟨k1, k2, k3⟩ := hrs.out.out
            refine Lib.hid ⟨k1.snoc (by simp only; omega) (by simp only; omega) (by simp only; omega) (by simp only; omega) (by simp only; omega) (by simp only; omega), by rw [endR_snoc]; exact Int.le_refl _, fun r hr => ?_⟩
            rcases List.mem_append.1 hr with h | h
            · have := k3 r h
              omega
            · rw [List.mem_singleton.1 h]
              exact Int.le_refl _
          go_wp2_with (at_builtin; go_loud ((refine wpList_append_rd rfl (.tmp 66) (.tmp 71) 38 rfl V.heap.size 40 ir (.agg #[.string ByteArray.empty, .int .i64 0, .int .i64 0, .int .i64 0]) 4 40 (by as_aux_lemma => kernel_rfl) hir hir0 hir1 hir2 rfl (by decide) _ _ _ rfl (hown.out.alloc _) _ 1 [.string nmA, .int .i64 A, .int .i64 (F + 7), .int .i64 (m + 1)] rfl (Rd.new wr #[.string nmA, .int .i64 A, .int .i64 (F + 7), .int .i64 (m + 1)] 40 1 4 1 rfl) ?_ ?_ ?_ ?_ ?_); (· intro u hu; simp at hu; rcases hu with rfl | rfl | rfl | rfl <;> rfl); (· unfold maxLen; omega); (· omega); (· have := hg.size; simp; omega); intro v3 w3 hown3 hgrow3))
          have hgn : Gr wr (wr.alloc (.cells #[.string nmA, .int .i64 A, .int .i64 (F + 7), .int .i64 (m + 1)] 40)) := (Gr.refl wr).alloc _
          have hge := own_ge hown.out
          have hg3 : Gr V w3 := (hg.trans hgn).grown hgrow3 (fun k hk => by have := hge k hk; omega)
          have hown4 : w3.ownsRow V.heap.size 40 4 v3 (rs ++ [Rn.mk A (F + 7) (m + 1)]).length (rflat nmA (rs ++ [Rn.mk A (F + 7) (m + 1)])) := by
            rw [List.length_append, List.length_singleton, show rflat nmA (rs ++ [Rn.mk A (F + 7) (m + 1)]) = rflat nmA rs ++ [.string nmA, .int .i64 A, .int .i64 (F + 7), .int .i64 (m + 1)] by unfold rflat; rw [List.flatMap_append]; rfl]
            exact hown3
          clear hown3 hgrow3 hown hge
          exact ⟨⟨ii + 1, rs ++ [Rn.mk A (F + 7) (m + 1)], A + (m + 1), (F + 7) + (m + 1), by go_num, rfl, rfl, by omega, by omega, by rw [List.length_append, List.length_singleton, hrl], by omega, by omega, by omega, by omega, hg3, hown4, hrs2⟩, by simp [RowKit.intOf]; omega⟩
        · as_aux_lemma =>
          have hrs2 : Hid (RunsOk 0 (rs ++ [Rn.mk (A + 3) (F + 7) (m + 1)]) ∧ endR 0 (rs ++ [Rn.mk (A + 3) (F + 7) (m + 1)]) ≤ (A + 3) + (m + 1) ∧ ∀ r ∈ rs ++ [Rn.mk (A + 3) (F + 7) (m + 1)], r.film + r.len ≤ (A + 3) + (m + 1)) := by
            obtain ⟨k1, k2, k3⟩ := hrs.out.out
            refine Lib.hid ⟨k1.snoc (by simp only; omega) (by simp only; omega) (by simp only; omega) (by simp only; omega) (by simp only; omega) (by simp only; omega), by rw [endR_snoc]; exact Int.le_refl _, fun r hr => ?_⟩
            rcases List.mem_append.1 hr with h | h
            · have := k3 r h
              omega
            · rw [List.mem_singleton.1 h]
              exact Int.le_refl _
          go_wp2_with (at_builtin; go_loud ((refine wpList_append_rd rfl (.tmp 66) (.tmp 71) 38 rfl V.heap.size 40 ir (.agg #[.string ByteArray.empty, .int .i64 0, .int .i64 0, .int .i64 0]) 4 40 (by as_aux_lemma => kernel_rfl) hir hir0 hir1 hir2 rfl (by decide) _ _ _ rfl (hown.out.alloc _) _ 1 [.string nmA, .int .i64 (A + 3), .int .i64 (F + 7), .int .i64 (m + 1)] rfl (Rd.new wr #[.string nmA, .int .i64 (A + 3), .int .i64 (F + 7), .int .i64 (m + 1)] 40 1 4 1 rfl) ?_ ?_ ?_ ?_ ?_); (· intro u hu; simp at hu; rcases hu with rfl | rfl | rfl | rfl <;> rfl); (· unfold maxLen; omega); (· omega); (· have := hg.size; simp; omega); intro v3 w3 hown3 hgrow3))
          have hgn : Gr wr (wr.alloc (.cells #[.string nmA, .int .i64 (A + 3), .int .i64 (F + 7), .int .i64 (m + 1)] 40)) := (Gr.refl wr).alloc _
          have hge := own_ge hown.out
          have hg3 : Gr V w3 := (hg.trans hgn).grown hgrow3 (fun k hk => by have := hge k hk; omega)
          have hown4 : w3.ownsRow V.heap.size 40 4 v3 (rs ++ [Rn.mk (A + 3) (F + 7) (m + 1)]).length (rflat nmA (rs ++ [Rn.mk (A + 3) (F + 7) (m + 1)])) := by
            rw [List.length_append, List.length_singleton, show rflat nmA (rs ++ [Rn.mk (A + 3) (F + 7) (m + 1)]) = rflat nmA rs ++ [.string nmA, .int .i64 (A + 3), .int .i64 (F + 7), .int .i64 (m + 1)] by unfold rflat; rw [List.flatMap_append]; rfl]
            exact hown3
          clear hown3 hgrow3 hown hge
          exact ⟨⟨ii + 1, rs ++ [Rn.mk (A + 3) (F + 7) (m + 1)], (A + 3) + (m + 1), (F + 7) + (m + 1), by go_num, rfl, rfl, by omega, by omega, by rw [List.length_append, List.length_singleton, hrl], by omega, by omega, by omega, by omega, hg3, hown4, hrs2⟩, by simp [RowKit.intOf]; omega⟩
      · have hrsO := hrs.out
        clear hgV hTh HM
        by_cases c1 : ii < ys.length
        · have c2 : ¬ ii < 8 := fun h => c0 ⟨c1, h⟩
          have q1 : decide (ii < ys.length) = true := decide_eq_true c1
          have q2 : decide ((ii : Int) < 8) = false := decide_eq_false (by omega)
          go_wp2
          go_meet
          case rel => exact ⟨rs, A, rfl, by omega, hA0, by omega, hg, Rd.own hown, hrs⟩
        · have q1 : decide (ii < ys.length) = false := decide_eq_false c1
          go_wp2
          go_meet
          case rel => exact ⟨rs, A, rfl, by omega, hA0, by omega, hg, Rd.own hown, hrs⟩
--@/A
  case rest =>
    obtain ⟨rs, A, rfl, hrn, hA0, hA1, hg, hRd, hrs⟩ := hcut
    obtain ⟨ra, rc, hrv⟩ : ∃ ra rc, u7 = Value.slice ra rs.length rc := by
      obtain ⟨_, ra, rc, h, _⟩ := hRd
      exact ⟨ra, rc, h⟩
    subst hrv
    have hlb := Cues.n hL.out
    have HCar : Hid (∀ (rs : List Rn) (rv : Value) (w' : World), Gr V w' → Rd w' rv rs.length 4 (rflat nmA rs) → RunsOk 0 rs → (∀ r ∈ rs, r.film + r.len < 1000) → rs.length ≤ 1000 →
        Calls Tryz.prog 5 #[.agg #[.slice (some ⟨MB, 0, none⟩) 1 1, .slice none 0 0], rv] w' fun e w'' => ∃ v' cs', e = .returned (.tuple #[v', .int .i64 0]) ∧ Gr w' w'' ∧ Cues w'' v' cs' ∧ cs'.map cAbs = carR (cs.map cAbs) [] rs) := Lib.hid fun rs rv w' h1 h2 h3 h4 h5 =>
      carry_ok MB 1 ML nmA 500 (.slice lp cs.length lc) cs rv rs w' (Pow.gr (hgV.trans h1) hTh.out) (hbM.out.gr h1) hM.out (Lib.hid fun w' => name_a w') (by decide) (by decide) (hL.out.gr h1) hMd.out.v (by rw [← ordB_abs]; exact hO.out) (by have := hMd.out.n; omega) h2 h3 h4 h5
    have hbPc := hbP.out.gr hg
    have p0 := hbPc.lt
    have p1 := (hbPc.cel.2 0 _ rfl).1
    have p2 := (hbPc.cel.2 1 _ rfl).1
    replace hRd := Lib.hid hRd
    replace hg := Lib.hid hg
    clear HM
    go_upto_region 18 with ((go_at_call 5; (with_reducible refine (HCar.out rs (.slice ra rs.length rc) _ hg.out hRd.out hrs.out.1 (fun r hr => ?_) ?_).mono ?_); (· have := hrs.out.2.2 r hr; omega); (· omega); rintro e w2 ⟨cv, cs2, rfl, hg2, hC2, hm2⟩; obtain ⟨cp, cc, hcv, hch⟩ := hC2.at_.shape; clear hch; subst hcv; replace hC2 := Lib.hid hC2; replace hm2 := Lib.hid hm2))
    have hg02 : Gr V w2 := hg.out.trans hg2
    have hL2 := Lib.hid (hL.out.gr hg02)
    have hRd2 := Lib.hid (hRd.out.gr hg2)
    have hP2 := Lib.hid (hbP.out.gr hg02)
    have hfi : Hid (∀ k : Int, atV cs2 k = wantR (cs.map cAbs) k none rs) := Lib.hid fun k => by
      have hcf := carR_find (n := k) (l := cs.map cAbs) (by rw [← vCues_abs]; exact hMd.out.v) (by rw [← ordB_abs]; exact hO.out) (rs := rs) (c := []) (T := 0) (fun y hy => (by cases hy)) rfl hrs.out.1
      have hv2 : vCues cs2 = true := by rw [vCues_abs, hm2.out]; exact hcf.2
      unfold atV
      rw [hv2, if_pos rfl, findA_abs, hm2.out, hcf.1]
      rfl
    have hfl : Hid (∀ k : Int, atV cs k = findB k (cs.map cAbs)) := Lib.hid fun k => by
      unfold atV
      rw [hMd.out.v, if_pos rfl, findA_abs]
    clear p0 p1 p2 hbPc hRd hg
    replace hg02 := Lib.hid hg02
    clear hg2
    go_wp2
    go_loopw [14] (fun n wr => ∃ k : Nat, (k : Int) ≤ A + 1 ∧ n = .int .i64 k ∧ Gr w2 wr) (fun n _ => (A + 1).toNat - (RowKit.intOf n).toNat)
    case atStart => exact ⟨0, by omega, rfl, Gr.refl _⟩
    case round =>
      obtain ⟨k, hk, rfl, hgk⟩ := hrel
      by_cases c1 : (k : Int) ≤ A
--@B
      · have q1 : decide ((k : Int) ≤ A) = true := decide_eq_true c1
        go_wp2
        go_loopw [15, 16, 94] (fun wv iv jv wr => ∃ (j : Nat) (O : Option (List ByteArray)), j ≤ rs.length ∧ jv = .int .i64 j ∧ iv = .bool O.isSome ∧ StrsR wr wv (O.getD []) ∧ (O.getD []).length ≤ 140737488355328 ∧ Gr w2 wr ∧ Hid (O = wantR (cs.map cAbs) k none (rs.take j))) (fun _ _ jv _ => rs.length - (RowKit.intOf jv).toNat)
        case atStart => exact ⟨0, none, by omega, rfl, rfl, StrsR.nil _, by simp, hgk, Lib.hid rfl⟩
        case round =>
          obtain ⟨j, O, hj, rfl, rfl, hS, hSn, hgj, hOw⟩ := hrel
          obtain ⟨sp, sc, rfl, hsh⟩ := hS.shape
          clear hsh
          replace hS := Lib.hid hS
          by_cases c2 : j < rs.length
          · have q2 : decide (j < rs.length) = true := decide_eq_true c2
            have hRx := hRd2.out.gr hgj
            obtain ⟨rb, ro, rcap', hrv, hrb, hrc⟩ := hRx.addr (by omega)
            injection hrv with e1 e2 e3
            subst e1 e3
            clear e2
            obtain ⟨r, hr⟩ : ∃ r, rs[j]? = some r := ⟨_, List.getElem?_eq_getElem c2⟩
            have x0 := hrc _ _ (rflat_at nmA rs j r hr 0 _ rfl)
            have x1 := hrc _ _ (rflat_at nmA rs j r hr 1 _ rfl)
            have x2 := hrc _ _ (rflat_at nmA rs j r hr 2 _ rfl)
            have x3 := hrc _ _ (rflat_at nmA rs j r hr 3 _ rfl)
            simp only [Nat.add_zero, ← Nat.add_assoc] at x0 x1 x2 x3
            obtain ⟨u1, u2, u3, u4, u5⟩ := hrs.out.1.mem r (List.mem_of_getElem? hr)
            have hwt := wantR_take (l := cs.map cAbs) (n := k) hr
            clear hrc hRx hr
            have hgn : Gr wr (wr.alloc (.cells #[.string nmA, .int .i64 r.film, .int .i64 r.frm, .int .i64 r.len] 40)) := (Gr.refl _).alloc _
            by_cases d1 : r.film ≤ k ∧ (k : Int) < r.film + r.len
            · have q3 : decide (r.film ≤ k) = true := decide_eq_true d1.1
              have q4 : decide ((k : Int) < r.film + r.len) = true := decide_eq_true d1.2
              rw [if_pos d1] at hwt
              replace hwt := Lib.hid hwt
              obtain ⟨O2, hO2⟩ : ∃ O2, findB (r.frm + k - r.film) (cs.map cAbs) = O2 := ⟨_, rfl⟩
              have HA1 : Hid (∀ w', Gr w2 w' → Calls Tryz.prog 6 #[.slice lp cs.length lc, .int .i64 (r.frm + k - r.film)] w' fun e w'' => ∃ v ss, e = .returned (.tuple #[v, .bool O2.isSome]) ∧ Gr w' w'' ∧ StrsR w'' v ss ∧ ss.length ≤ 140737488355328 ∧ ss = O2.getD []) := Lib.hid fun w' h => by
                rw [← hO2, ← hfl.out]
                exact cat_any _ cs _ w' (hL2.out.gr h) ⟨by omega, by omega⟩
              replace hO2 := Lib.hid hO2
              clear hOw hS hSn
              go_wp2_with (go_at_call 6; (with_reducible refine (HA1.out _ ?_).mono ?_); (· exact (by repeat (first | with_reducible exact Gr.refl _ | with_reducible assumption | refine Gr.setCell ?_ (by first | omega | (simp; done) | (simp; omega)) _ | refine Gr.alloc ?_ _ | refine Gr.drew ?_ | refine Gr.drewN ?_ _ | refine Gr.trans ?_ (by with_reducible assumption)))); rintro e w4 ⟨v1, ss1, rfl, hg4, hS1, hn1, he1⟩; subst he1; obtain ⟨p1, k1, hv1, hh1⟩ := hS1.shape; clear hh1; subst hv1; replace hS1 := Lib.hid hS1)
              go_roundw
              case rel => exact ⟨j + 1, O2, by omega, by go_num, rfl, hS1.out, hn1, (by repeat (first | with_reducible exact Gr.refl _ | with_reducible assumption | refine Gr.setCell ?_ (by first | omega | (simp; done) | (simp; omega)) _ | refine Gr.alloc ?_ _ | refine Gr.drew ?_ | refine Gr.drewN ?_ _ | refine Gr.trans ?_ (by with_reducible assumption))), Lib.hid (by rw [hwt.out, hO2.out])⟩
              case measure => simp [RowKit.intOf]; omega
            · rw [if_neg d1, ← hOw.out] at hwt
              replace hwt := Lib.hid hwt
              by_cases d2 : r.film ≤ k
              · have q3 : decide (r.film ≤ k) = true := decide_eq_true d2
                have q4 : decide ((k : Int) < r.film + r.len) = false := decide_eq_false (fun h => d1 ⟨d2, h⟩)
                go_wp2
                go_roundw
                case rel => exact ⟨j + 1, O, by omega, by go_num, rfl, hS.out.gr hgn, hSn, hgj.trans hgn, Lib.hid hwt.out.symm⟩
                case measure => simp [RowKit.intOf]; omega
              · have q3 : decide (r.film ≤ k) = false := decide_eq_false d2
                go_wp2
                go_roundw
                case rel => exact ⟨j + 1, O, by omega, by go_num, rfl, hS.out.gr hgn, hSn, hgj.trans hgn, Lib.hid hwt.out.symm⟩
                case measure => simp [RowKit.intOf]; omega
          · have q2 : decide (j < rs.length) = false := decide_eq_false c2
            have hO1 : atV cs2 k = O := by
              rw [hfi.out, hOw.out, show j = rs.length by omega, List.take_length]
            have HA1 : Hid (∀ w', Gr w2 w' → Calls Tryz.prog 6 #[.slice cp cs2.length cc, .int .i64 k] w' fun e w'' => ∃ v ss, e = .returned (.tuple #[v, .bool O.isSome]) ∧ Gr w' w'' ∧ StrsR w'' v ss ∧ ss.length ≤ 140737488355328 ∧ ss = O.getD []) := Lib.hid fun w' h => by rw [← hO1]; exact cat_any _ cs2 k w' (hC2.out.gr h) ⟨by omega, by omega⟩
            have HS : Hid (∀ v1 v2 ss w', StrsR w' v1 ss → StrsR w' v2 ss → ss.length ≤ 140737488355328 → Calls Tryz.prog 7 #[v1, v2] w' fun e w'' => e = .returned (.bool true) ∧ Gr w' w'') := fun v1 v2 ss w' h1 h2 h3 => by
              have := strings_any v1 v2 ss ss w' h1 h2 h3 h3
              rw [decide_eq_true rfl] at this
              exact this
            clear hO1 hOw
            generalize O.isSome = B at HA1
            generalize O.getD [] = SS at HA1 hS hSn
            have q3 : (B != B) = false := by cases B <;> rfl
            go_wp2_with (first
              | (go_at_call 6; (with_reducible refine (HA1.out _ hgj).mono ?_); rintro e w4 ⟨v1, ss1, rfl, hg4, hS1, hn1, he1⟩; subst he1; obtain ⟨p1, k1, hv1, hh1⟩ := hS1.shape; clear hh1; subst hv1; replace hS1 := Lib.hid hS1)
              | (go_at_call 7; (with_reducible refine (HS.out _ _ ss1 _ hS1.out (hS.out.gr hg4) hn1).mono ?_); rintro e w6 ⟨rfl, hg6⟩))
            go_roundw
            case rel => exact ⟨k + 1, by omega, by go_num, (hgj.trans hg4).trans hg6⟩
            case measure => simp [RowKit.intOf]; omega
--@/B
--@C
      · have q1 : decide ((k : Int) ≤ A) = false := decide_eq_false c1
        have hgVk : Gr V wr := hg02.out.trans hgk
        have hPk := hP2.out.gr hgk
        have p0 := hPk.lt
        have p1 := (hPk.cel.2 0 _ rfl).1
        have p2 := (hPk.cel.2 1 _ rfl).1
        have HC1 : Hid (∀ (w' : World) (b : Nat), Gr V w' → Blk w' b 40 [.string nmA, .int .i64 0, .int .i64 0, .int .i64 400] → Calls Tryz.prog 5 #[.agg #[.slice (some ⟨MB, 0, none⟩) 1 1, .slice none 0 0], .slice (some ⟨b, 0, none⟩) 1 1] w' fun e w'' => ∃ v' cs', e = .returned (.tuple #[v', .int .i64 0]) ∧ Gr w' w'' ∧ Cues w'' v' cs' ∧ cs'.map cAbs = carR (cs.map cAbs) [] [⟨0, 0, 400⟩]) := Lib.hid fun w' b h1 h2 =>
          HCar.out [⟨0, 0, 400⟩] _ w' h1 ⟨rfl, _, _, rfl, .inr ⟨b, 0, rfl, h2.lt, fun j u h => by simpa using (h2.cel.2 j u h).1⟩⟩ ⟨by decide, by decide, by decide, by decide, by decide, by decide, trivial⟩ (fun r hr => by rw [List.mem_singleton.1 hr]; decide) (by decide)
        have HC2 : Hid (∀ (w' : World) (b : Nat), Gr V w' → Blk w' b 40 [.string nmA, .int .i64 0, .int .i64 0, .int .i64 13, .string nmA, .int .i64 13, .int .i64 13, .int .i64 387] → Calls Tryz.prog 5 #[.agg #[.slice (some ⟨MB, 0, none⟩) 1 1, .slice none 0 0], .slice (some ⟨b, 0, none⟩) 2 2] w' fun e w'' => ∃ v' cs', e = .returned (.tuple #[v', .int .i64 0]) ∧ Gr w' w'' ∧ Cues w'' v' cs' ∧ cs'.map cAbs = carR (cs.map cAbs) [] [⟨0, 0, 13⟩, ⟨13, 13, 387⟩]) := Lib.hid fun w' b h1 h2 =>
          HCar.out [⟨0, 0, 13⟩, ⟨13, 13, 387⟩] _ w' h1 ⟨rfl, _, _, rfl, .inr ⟨b, 0, rfl, h2.lt, fun j u h => by simpa using (h2.cel.2 j u h).1⟩⟩ ⟨by decide, by decide, by decide, by decide, by decide, by decide, by decide, by decide, by decide, by decide, by decide, by decide, trivial⟩ (fun r hr => by
            simp only [List.mem_cons, List.not_mem_nil, or_false] at hr
            rcases hr with rfl | rfl <;> decide) (by decide)
        have HTo : Hid (∀ w', Gr V w' → Calls Tryz.prog 8 #[.slice lp cs.length lc] w' fun e w'' => ∃ b : Bool, e = .returned (.bool b) ∧ Gr w' w'' ∧ (b = false → NoT (cs.map cAbs))) := Lib.hid fun w' h => touching_any _ cs w' (hL.out.gr h)
        have HSm : Hid (∀ va vb xs' ys' w', Cues w' va xs' → Cues w' vb ys' → xs'.map cAbs = ys'.map cAbs → Calls Tryz.prog 9 #[va, vb] w' fun e w'' => e = .returned (.bool true) ∧ Gr w' w'') := Lib.hid fun va vb xs' ys' w' h1 h2 h3 => by
          have := same_any va vb xs' ys' w' h1 h2
          rw [decide_eq_true h3] at this
          exact this
        clear HCar hfi hfl
        go_upto_region 32 with (go_at_call 5; (with_reducible refine (HC1.out _ wr.heap.size (hgVk.alloc _) (Blk.new wr _ 40)).mono ?_); rintro e w3 ⟨v3, cs3, rfl, hg3, hC3, hm3⟩; obtain ⟨p3, c3, hv3, hh3⟩ := hC3.at_.shape; clear hh3; subst hv3; replace hC3 := Lib.hid hC3; replace hm3 := Lib.hid hm3)
        have hgV3 : Gr V w3 := (hgVk.alloc _).trans hg3
        have hP3 := hP2.out.gr ((hgk.alloc (.cells #[.string nmA, .int .i64 0, .int .i64 0, .int .i64 400] 40)).trans hg3)
        clear p0 p1 p2 hg3 hPk
        have p0 := hP3.lt
        have p1 := (hP3.cel.2 0 _ rfl).1
        have p2 := (hP3.cel.2 1 _ rfl).1
        go_upto_region 33 with (go_at_call 5; (with_reducible refine (HC2.out _ w3.heap.size (hgV3.alloc _) (Blk.new w3 _ 40)).mono ?_); rintro e w4 ⟨v4, cs4, rfl, hg4, hC4, hm4⟩; obtain ⟨p4, c4, hv4, hh4⟩ := hC4.at_.shape; clear hh4; subst hv4; replace hC4 := Lib.hid hC4; replace hm4 := Lib.hid hm4)
        have hg34 : Gr w3 w4 := ((Gr.refl w3).alloc _).trans hg4
        have hgV4 : Gr V w4 := hgV3.trans hg34
        clear p0 p1 p2 hg4 hP3
        have hsp : Hid (NoT (cs.map cAbs) → cs3.map cAbs = cs4.map cAbs) := Lib.hid fun hn => by
          rw [hm3.out, hm4.out]
          exact foll_split _ (by rw [← vCues_abs]; exact hMd.out.v) (by rw [← ordB_abs]; exact hO.out) hn
        go_wp2_with (first
          | (go_at_call 8; (with_reducible refine (HTo.out _ hgV4).mono ?_); rintro e w5 ⟨bo, rfl, hg5, hbo⟩; cases bo; replace hbo := Lib.hid (hsp.out (hbo rfl)))
          | (go_at_call 9; (with_reducible refine (HSm.out _ _ cs3 cs4 _ (hC3.out.gr (hg34.trans hg5)) (hC4.out.gr hg5) hbo.out).mono ?_); rintro e w6 ⟨rfl, hg6⟩)
          | (go_at_call 10; (with_reducible refine (HW.out _ ?_).mono ?_); (· first | exact ((hgV.trans hgV4).trans hg5).trans hg6 | exact (hgV.trans hgV4).trans hg5); rintro e w7 ⟨rfl, hg7⟩))
        all_goals
          go_ret
          exact ⟨rfl, by first | exact (((hgV.trans hgV4).trans hg5).trans hg6).trans hg7 | exact ((hgV.trans hgV4).trans hg5).trans hg7⟩
--@/C
end Go.Proofs.YthadhmhbbfjomaaGreatDoor
