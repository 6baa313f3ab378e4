import Derived.Test.YtgbiodnfpbhjiaaGreatDoorWalkTm
import Derived.Test.YtgbiodnfpbhjiaaGreatDoorKit
/-
  Contracts of Gcd, within, Base and Moved of the reference's layer 23.
  Conditions: the source is valid; the numbers are small.
-/
namespace Go.Proofs.YtgbiodnfpbhjiaaGreatDoor
open Go.RowKit Go.Lib
set_option linter.unusedSimpArgs false
set_option linter.unusedVariables false
/-- within the limit m -/
def wiB (n d m : Int) : Bool := decide (mg n / d < m) || (decide (mg n / d = m) && decide (mg n % d = 0))
/-- whether a source moved is within the limit -/
def mvOk (s : Sr) (n : Int) : Bool := decide (s = blkS) || wiB (mvS s n).an (mvS s n).ad 1099511627776
end Go.Proofs.YtgbiodnfpbhjiaaGreatDoor

/-
  Contract of SameClip of the reference's layer 23.
  Conditions: the clips' channels lie in memory.
-/
namespace Go.Proofs.YtgbiodnfpbhjiaaGreatDoor
open Go.RowKit Go.Lib
set_option linter.unusedSimpArgs false
set_option linter.unusedVariables false

set_option maxRecDepth 20000 in
set_option maxHeartbeats 8000000 in
theorem rsame_core (k7 : Nat) (hk7 : 7 = k7) (m n : CM) (w : World) (hm : ChR w m) (hn : ChR w n) (hl : m.c.ch.length ≤ 4611686018427387904) : Calls Tryz.prog 47 #[m.val, n.val] w fun e w' => e = .returned (.bool (decide (m.c = n.c))) ∧ Gr w w' := by
  have aE7 : ∀ w, (isAgg 79).run Tryz.prog w = .ok true w := Tryz.isAgg79
  have zE7 : ∀ w, (Go.sizeOf 79).run Tryz.prog w = .ok k7 w := fun w => by rw [← hk7]; exact Tryz.sizeOf79 w
  have hk0 : ¬ k7 = 0 := by omega
  have hea : ∀ w, (binOp .eql 79 (.agg m.c.a.cells.toArray) (.agg n.c.a.cells.toArray)).run Tryz.prog w = .ok (.bool (decide (m.c.a = n.c.a))) w := fun w => eq_src m.c.a n.c.a w
  have heb : ∀ w, (binOp .eql 79 (.agg m.c.b.cells.toArray) (.agg n.c.b.cells.toArray)).run Tryz.prog w = .ok (.bool (decide (m.c.b = n.c.b))) w := fun w => eq_src m.c.b n.c.b w
  obtain ⟨_, a1, cap1, hv1, ha⟩ := hm
  obtain ⟨_, a2, cap2, hv2, hb⟩ := hn
  obtain ⟨W, hW⟩ : ∃ W, (w.alloc (.cells m.cells.toArray 81)).alloc (.cells n.cells.toArray 81) = W := ⟨_, rfl⟩
  have hgA : Gr w W := by rw [← hW]; exact ((Gr.refl w).alloc _).alloc _
  have hbm : Cel W w.heap.size m.cells := by rw [← hW]; exact (Cel.new w m.cells.toArray 81).alloc _
  have hbn : Cel W (w.heap.size + 1) n.cells := by
    rw [← hW]
    have := Cel.new (w.alloc (.cells m.cells.toArray 81)) n.cells.toArray 81
    simpa using this
  have HM : Hid (∀ wx, Gr W wx → BoxF wx w.heap.size m.c (.slice a1 m.c.ch.length cap1) ∧ Sem.run Tryz.prog (loadCellsFrom ⟨w.heap.size, 2, none⟩ 0 k7 #[]) wx = .ok m.c.a.cells.toArray wx ∧ Sem.run Tryz.prog (loadCellsFrom ⟨w.heap.size, 9, none⟩ 0 k7 #[]) wx = .ok m.c.b.cells.toArray wx) := Lib.hid fun wx hg => by
    have h1 := BoxF.of (hbm.gr hg)
    rw [hv1] at h1
    exact ⟨h1, box_src hk7 (hbm.gr hg)⟩
  have HN : Hid (∀ wx, Gr W wx → BoxF wx (w.heap.size + 1) n.c (.slice a2 n.c.ch.length cap2) ∧ Sem.run Tryz.prog (loadCellsFrom ⟨w.heap.size + 1, 2, none⟩ 0 k7 #[]) wx = .ok n.c.a.cells.toArray wx ∧ Sem.run Tryz.prog (loadCellsFrom ⟨w.heap.size + 1, 9, none⟩ 0 k7 #[]) wx = .ok n.c.b.cells.toArray wx) := Lib.hid fun wx hg => by
    have h1 := BoxF.of (hbn.gr hg)
    rw [hv2] at h1
    exact ⟨h1, box_src hk7 (hbn.gr hg)⟩
  replace hk7 := Lib.hid hk7
  replace hW := Lib.hid hW
  have ha3 : m.c.ch.length = 0 ∨ ∃ b o, a1 = some ⟨b, o, none⟩ ∧ b < W.heap.size ∧ ∀ j (h : j < m.c.ch.length), W.cell? ⟨b, o + j, none⟩ = some (.int .i64 m.c.ch[j]) := by
    rcases ha with ha | ⟨b, o, h1, h2, h3⟩
    · exact .inl ha.1
    · exact .inr ⟨b, o, h1, Nat.lt_of_lt_of_le h2 hgA.size, fun j hj => (hgA.cells.1 b _ h2).trans (h3 j _ (ints_at hj))⟩
  have hb3 : n.c.ch.length = 0 ∨ ∃ b o, a2 = some ⟨b, o, none⟩ ∧ b < W.heap.size ∧ ∀ j (h : j < n.c.ch.length), W.cell? ⟨b, o + j, none⟩ = some (.int .i64 n.c.ch[j]) := by
    rcases hb with ha | ⟨b, o, h1, h2, h3⟩
    · exact .inl ha.1
    · exact .inr ⟨b, o, h1, Nat.lt_of_lt_of_le h2 hgA.size, fun j hj => (hgA.cells.1 b _ h2).trans (h3 j _ (ints_at hj))⟩
  replace ha3 := Lib.hid ha3
  replace hb3 := Lib.hid hb3
  have hR0 := cl_eq_iff m.c n.c
  rw [hR0]
  replace hR0 := Lib.hid hR0
  unfold CM.val
  clear hbm hbn hv1 hv2 ha hb
  generalize m.cells = l1 at *
  generalize n.cells = l2 at *
  generalize m.c.a.cells = la1 at *
  generalize m.c.b.cells = lb1 at *
  generalize n.c.a.cells = la2 at *
  generalize n.c.b.cells = lb2 at *
  obtain ⟨⟨len, kind, a, b, off, tot, par, tx, gain, ch⟩, cv⟩ := m
  obtain ⟨⟨len', kind', a', b', off', tot', par', tx', gain', ch'⟩, cv'⟩ := n
  simp only at *
  clear hR0
  generalize decide (a = a') = Ra at *
  generalize decide (b = b') = Rb at *
  obtain ⟨Rc, hRc⟩ : ∃ Rc, decide (ch = ch') = Rc := ⟨_, rfl⟩
  rw [hRc]
  obtain ⟨R, hR⟩ : ∃ R, ((len == len') && ((kind == kind') && (Ra && (Rb && ((off == off') && ((tot == tot') && ((par == par') && ((tx.toList == tx'.toList) && ((gain == gain') && Rc))))))))) = R := ⟨_, rfl⟩
  rw [hR]
  replace hRc := Lib.hid hRc
  replace hR := Lib.hid hR
  go_enter Tryz.func47, Tryz.ntmps47
  go_upto_region 1 with fail
  rw [hW.out]
  obtain ⟨⟨x, x0, x1, x16, x17, x18, x19, x20, x21⟩, s1, s2⟩ := HM.out W (Gr.refl _)
  obtain ⟨⟨y, y0, y1, y16, y17, y18, y19, y20, y21⟩, s3, s4⟩ := HN.out W (Gr.refl _)
  simp only at *
  clear x0 x1 x16 x17 x18 x19 x20 s1 s2 y0 y1 y16 y17 y18 y19 y20 s3 s4
  by_cases c6 : ch.length = ch'.length
  · have q6 : (!((ch.length : Int) == (ch'.length : Int))) = false := by simp [c6]
    go_wp2
    go_loopw [5] (fun i wr => ∃ j : Nat, j ≤ ch.length ∧ i = .int .i64 j ∧ Hid (ch.take j = ch'.take j) ∧ Gr W wr) (fun i _ => ch.length - (RowKit.intOf i).toNat)
    case atStart => exact ⟨0, Nat.zero_le _, rfl, Lib.hid rfl, Gr.refl _⟩
    case round =>
      obtain ⟨j, hj, rfl, hno, hg⟩ := hrel
      clear x x21 y y21
      obtain ⟨⟨x, x0, x1, x16, x17, x18, x19, x20, x21⟩, s1, s2⟩ := HM.out wr hg
      obtain ⟨⟨y, y0, y1, y16, y17, y18, y19, y20, y21⟩, s3, s4⟩ := HN.out wr hg
      simp only at *
      by_cases c1 : j < ch.length
      · clear x0 x1 x16 x17 x18 x19 x20 s1 s2 y0 y1 y16 y17 y18 y19 y20 s3 s4
        have q1 : decide ((j : Int) < (ch.length : Int)) = true := decide_eq_true (by omega)
        rcases ha3.out with ha2 | ⟨b1, o, rfl, hb1, hc1⟩
        · omega
        rcases hb3.out with hb2 | ⟨b2, o2, rfl, hb2, hc2⟩
        · omega
        have hx1 : b1 < wr.heap.size := Nat.lt_of_lt_of_le hb1 hg.size
        have hx2 : b2 < wr.heap.size := Nat.lt_of_lt_of_le hb2 hg.size
        have z0 : wr.cell? ⟨b1, o + j, none⟩ = some (.int .i64 ch[j]) := (hg.cells.1 b1 _ hb1).trans (hc1 j c1)
        have z1 : wr.cell? ⟨b2, o2 + j, none⟩ = some (.int .i64 (ch'[j]'(by omega))) := (hg.cells.1 b2 _ hb2).trans (hc2 j (by omega))
        have hj2 : (0 : Int) ≤ (j : Int) ∧ (j : Int) < (ch'.length : Int) := by omega
        have hall : ch[j] = ch'[j]'(by omega) → ch.take (j + 1) = ch'.take (j + 1) := fun e => by
          rw [← List.take_append_getElem c1, ← List.take_append_getElem (show j < ch'.length by omega), hno.out, e]
        have hbad : ch[j] ≠ ch'[j]'(by omega) → ch ≠ ch' := fun e h => e (by simp [h])
        generalize ch[j] = xx at z0 hall hbad
        generalize ch'[j]'(by omega) = yy at z1 hall hbad
        clear hc1 hc2 hno
        by_cases cx : xx = yy
        · have q3 : (!(xx == yy)) = false := by simp [cx]
          have hall := Lib.hid (hall cx)
          clear hbad
          have cx := Lib.hid cx
          go_upto_region 6 with fail
          refine wp_region_gr (by kernel_rfl) (by kernel_rfl) (fun hq1 hq2 => ?_)
          repeat (first | go_big_quiet_skip | (go_big_quiet_want; go_big_quiet_op; first | go_big_quiet_on | (apply Exists.intro; refine ⟨fun _ => ?_, ?_⟩; (· (fail)); go_big_quiet_on)))
          refine wpQuiet_nil ?_
          clear hq1 hq2
          rintro w1 ⟨⟨_, hg1⟩, rfl⟩
          obtain ⟨hc1, hf1⟩ := hg1.cells
          have hz1 := hg1.size
          (try simp at hz1); (try have hl1_0_0 : w.heap.size < w1.heap.size := by omega); (try have hm1_0_0 : w.heap.size ≤ w1.heap.size := by omega); (try have hl1_0_1 : w.heap.size + 1 < w1.heap.size := by omega); (try have hl1_0_2 : w.heap.size + 2 < w1.heap.size := by omega)
          go_wp2
          go_roundw
          case rel => exact ⟨j + 1, by omega, by go_num, hall, hg.trans hg1⟩
          case measure => simp [RowKit.intOf]; omega
        · have q3 : (!(xx == yy)) = true := by simpa using cx
          have hbad := Lib.hid (hbad cx)
          clear hall
          go_upto_region 6 with fail
          refine wp_region_gr (by kernel_rfl) (by kernel_rfl) (fun hq1 hq2 => ?_)
          repeat (first | go_big_quiet_skip | (go_big_quiet_want; go_big_quiet_op; first | go_big_quiet_on | (apply Exists.intro; refine ⟨fun _ => ?_, ?_⟩; (· (fail)); go_big_quiet_on)))
          refine wpQuiet_nil ?_
          clear hq1 hq2
          rintro w1 ⟨⟨_, hg1⟩, rfl⟩
          obtain ⟨hc1, hf1⟩ := hg1.cells
          have hz1 := hg1.size
          (try simp at hz1); (try have hl1_0_0 : w.heap.size < w1.heap.size := by omega); (try have hm1_0_0 : w.heap.size ≤ w1.heap.size := by omega); (try have hl1_0_1 : w.heap.size + 1 < w1.heap.size := by omega); (try have hl1_0_2 : w.heap.size + 2 < w1.heap.size := by omega)
          go_wp2
          go_ret
          exact ⟨by rw [← hR.out, ← hRc.out, decide_eq_false hbad.out]; simp, (hgA.trans hg).trans hg1⟩
      · have q1 : decide ((j : Int) < (ch.length : Int)) = false := decide_eq_false (by omega)
        have hst := hno.out
        rw [List.take_of_length_le (by omega), List.take_of_length_le (by omega)] at hst
        have hRr := hR.out
        rw [← hRc.out, decide_eq_true hst] at hRr
        clear ha3 hb3 hno hR hRc hst
        generalize hE1 : (len == len') = E1 at *
        generalize hE2 : (kind == kind') = E2 at *
        generalize hE3 : (off == off') = E3 at *
        generalize hE4 : (tot == tot') = E4 at *
        generalize hE5 : (par == par') = E5 at *
        generalize hE6 : (tx.toList == tx'.toList) = E6 at *
        generalize hE7 : (gain == gain') = E7 at *
        replace hRr := Lib.hid hRr
        have hgB := hgA.trans hg
        go_wp2
        all_goals go_ret
        all_goals refine ⟨?_, hgB⟩
        all_goals have hh := hRr.out
        all_goals simp_all
  · have q6 : (!((ch.length : Int) == (ch'.length : Int))) = true := by simp; omega
    have hRr := hR.out
    rw [← hRc.out, decide_eq_false (show ¬ ch = ch' from fun e => c6 (by rw [e]))] at hRr
    replace hRr := Lib.hid hRr
    go_wp2
    go_ret
    exact ⟨by rw [← hRr.out]; simp, hgA⟩
theorem rsame_any (m n : CM) (w : World) (hm : ChR w m) (hn : ChR w n) (hl : m.c.ch.length ≤ 4611686018427387904) : Calls Tryz.prog 47 #[m.val, n.val] w fun e w' => e = .returned (.bool (decide (m.c = n.c))) ∧ Gr w w' := rsame_core 7 rfl m n w hm hn hl
end Go.Proofs.YtgbiodnfpbhjiaaGreatDoor

/-
  The next operation of a drawn region whose pure operations are carried out, where only one is ready.
  Conditions: none.
-/
namespace Go.Proofs.YtgbiodnfpbhjiaaGreatDoor
open Go.RowKit
set_option linter.unusedVariables false

theorem still_next {P : Program} {ops : Array Oper} {md : Region.Mode} {Q : Exit → Act → World → Prop} {S : Nat → World → Prop} {f j : Nat} {oj : Oper} {listed : Array Bool} {a : Act} {w : World} (hl : Region.ready md ops listed = [j]) (hj : ops[j]? = some oj)
    (h : ∀ R : Act → World → Prop, (∀ a' w', (∀ i, ¬ waitsFor md ops j i → S i w → S i w') → stillAny P md ops Q S f (listed.setIfInBounds j true) a' w' → R a' w') → wpList P ops (only R) [oj] a w) : stillAny P md ops Q S (f + 1) listed a w :=
  still_pick [j] hl (by simp) (fun i hi => by rw [List.mem_singleton.1 hi]; exact still_one hj h)
end Go.Proofs.YtgbiodnfpbhjiaaGreatDoor

/-
  Contracts of Copy, Shares, Shift and Continues of the reference's layer 23.
  Conditions: the clips' channels lie in memory; the clip before has valid sources, and its numbers are small.
-/
namespace Go.Proofs.YtgbiodnfpbhjiaaGreatDoor
open Go.RowKit Go.Lib
set_option linter.unusedSimpArgs false
set_option linter.unusedVariables false

abbrev zClip : Array Value := #[.int .i64 0, .int .i64 0, .int .i64 0, .string ⟨#[]⟩, .int .i64 0, .int .i64 0, .int .i64 0, .int .i64 0, .bool false, .int .i64 0, .string ⟨#[]⟩, .int .i64 0, .int .i64 0, .int .i64 0, .int .i64 0, .bool false, .int .i64 0, .int .i64 0, .int .i64 0, .string ⟨#[]⟩, .int .i64 0, .slice none 0 0]
theorem ChR.row {w : World} {m : CM} {g : Nat} {l : Array Value} (h : ChR w m) (hne : m.cv.ownBlock ≠ some g) : ChR (w.setRow g l) m := Rd.grown (grown_setRow w g l) (.inr (.inl hne)) h
theorem ChR.cell {w : World} {m : CM} {p : Addr} {u : Value} (h : ChR w m) (hne : m.cv.ownBlock ≠ some p.block) : ChR (w.setCell p u) m := Rd.setCell p u hne h
theorem infoSrc7 : (Tryz.prog.info? 79).map (·.size) = some 7 := by kernel_rfl
/-- a clip shifted -/
def shf (c : Cl) (n : Int) : Cl := ⟨c.len, c.kind, mvS c.a n, mvS c.b n, if shr c.kind then c.off + n else c.off, c.tot, c.par, c.tx, c.gain, c.ch⟩
end Go.Proofs.YtgbiodnfpbhjiaaGreatDoor

/-
  Contracts of pack, Clean and Equal of the reference's layer 23.
  Conditions: the clips lie in memory, and are valid; they are not too long together.
-/
namespace Go.Proofs.YtgbiodnfpbhjiaaGreatDoor
open Go.RowKit Go.Lib
set_option linter.unusedSimpArgs false
set_option linter.unusedVariables false

/-- where the reference's packing stands behind i clips -/
def PkR (cs : List CM) (i : Nat) (ts : List CM) (R : List Cl) : Prop :=
  (i = 0 ∧ ts = [] ∧ pk (cs.map CM.c) = R) ∨ (∃ (ini : List CM) (m : CM), 0 < i ∧ ts = ini ++ [m] ∧ ini.map CM.c ++ pkGo m.c ((cs.drop i).map CM.c) = R)
theorem PkR.end {cs : List CM} {ts : List CM} {R : List Cl} (h : PkR cs cs.length ts R) : ts.map CM.c = R := by
  rcases h with ⟨h1, rfl, h2⟩ | ⟨ini, m, h1, rfl, h3⟩
  · rw [List.eq_nil_of_length_eq_zero h1] at h2
    exact h2
  · rw [List.drop_length] at h3
    rw [← h3]
    simp [pkGo]
theorem PkR.first {cs : List CM} {ts : List CM} {R : List Cl} (hl : 0 < cs.length) (h : PkR cs 0 ts R) (m : CM) (hm : m.c = cs[0].c) : PkR cs 1 (ts ++ [m]) R := by
  rcases h with ⟨h1, rfl, h2⟩ | ⟨ini, m, h1, _⟩
  · refine .inr ⟨[], m, by omega, rfl, ?_⟩
    rw [← h2, hm]
    cases cs with
    | nil => simp at hl
    | cons a r => rfl
  · omega
theorem PkR.last {cs : List CM} {i : Nat} {ini : List CM} {m : CM} {R : List Cl} (h : PkR cs i (ini ++ [m]) R) : ini.map CM.c ++ pkGo m.c ((cs.drop i).map CM.c) = R := by
  rcases h with ⟨_, h2, _⟩ | ⟨ini', m', h1, h4, h3⟩
  · simp at h2
  · obtain ⟨e1, e2⟩ := List.append_inj' h4 rfl
    injection e2 with e2
    subst e1 e2
    exact h3
theorem PkR.new {cs : List CM} {i : Nat} {ini : List CM} {m0 : CM} {R : List Cl} (hi : i < cs.length) (h : PkR cs i (ini ++ [m0]) R) (hk : cont m0.c cs[i].c = false) (m : CM) (hm : m.c = cs[i].c) : PkR cs (i + 1) (ini ++ [m0] ++ [m]) R := by
  have h3 := h.last
  refine .inr ⟨ini ++ [m0], m, by omega, rfl, ?_⟩
  rw [List.drop_eq_getElem_cons hi, List.map_cons, pkGo, hk] at h3
  rw [← h3, hm]
  simp
theorem PkR.join {cs : List CM} {i : Nat} {ini : List CM} {m : CM} {R : List Cl} (hi : i < cs.length) (h : PkR cs i (ini ++ [m]) R) (hk : cont m.c cs[i].c = true) : PkR cs (i + 1) (ini ++ [⟨longer m.c cs[i].c.len, m.cv⟩]) R := by
  have h3 := h.last
  refine .inr ⟨ini, _, by omega, rfl, ?_⟩
  rw [List.drop_eq_getElem_cons hi, List.map_cons, pkGo, hk] at h3
  exact h3
theorem PkR.some {cs : List CM} {i : Nat} {ts : List CM} {R : List Cl} (h0 : 0 < i) (h : PkR cs i ts R) : ∃ ini m, ts = ini ++ [m] := by
  rcases h with ⟨h1, _⟩ | ⟨ini, m, _, h, _⟩
  · omega
  · exact ⟨ini, m, h⟩
/-- what is known of the clips packed so far -/
def PkV (cs : List CM) (i : Nat) (ts : List CM) : Prop := (∀ m ∈ ts, VC m.c) ∧ tot (ts.map CM.c) = tot ((cs.take i).map CM.c)
theorem tot_take {cs : List CM} {i : Nat} (hi : i < cs.length) : tot ((cs.take (i + 1)).map CM.c) = tot ((cs.take i).map CM.c) + cs[i].c.len := by
  rw [← List.take_append_getElem hi, List.map_append, tot_append]
  simp [tot]
theorem tot_pre {cs : List CM} (hv : ∀ c ∈ cs, VC c.c) (i : Nat) : tot ((cs.take i).map CM.c) ≤ tot (cs.map CM.c) := by
  have h : tot (cs.map CM.c) = tot ((cs.take i).map CM.c) + tot ((cs.drop i).map CM.c) := by rw [← tot_append, ← List.map_append, List.take_append_drop]
  have h2 : 0 ≤ tot ((cs.drop i).map CM.c) := tot_nonneg fun c hc => by
    obtain ⟨m, hm, rfl⟩ := List.mem_map.1 hc
    exact (hv m (List.mem_of_mem_drop hm)).vl
  omega
theorem PkV.new {cs : List CM} {i : Nat} {ts : List CM} (hi : i < cs.length) (hv : ∀ c ∈ cs, VC c.c) (h : PkV cs i ts) (m : CM) (hm : m.c = cs[i].c) : PkV cs (i + 1) (ts ++ [m]) := by
  refine ⟨fun x hx => ?_, ?_⟩
  · rcases List.mem_append.1 hx with h1 | h1
    · exact h.1 x h1
    · rw [List.mem_singleton.1 h1, hm]
      exact hv _ (List.getElem_mem hi)
  · rw [tot_take hi, List.map_append, tot_append, h.2]
    simp [tot, hm]
theorem PkV.len {cs : List CM} {i : Nat} {ini : List CM} {m : CM} (hi : i < cs.length) (hv : ∀ c ∈ cs, VC c.c) (ht : tot (cs.map CM.c) ≤ 2147483647) (h : PkV cs i (ini ++ [m])) : 0 ≤ m.c.len ∧ m.c.len + cs[i].c.len ≤ 2147483647 := by
  have h1 := (h.1 m (by simp)).len
  have h2 := h.2
  rw [List.map_append, tot_append] at h2
  have h3 : 0 ≤ tot (ini.map CM.c) := tot_nonneg fun c hc => by
    obtain ⟨x, hx, rfl⟩ := List.mem_map.1 hc
    exact (h.1 x (List.mem_append_left _ hx)).vl
  have h4 := tot_pre hv (i + 1)
  rw [tot_take hi] at h4
  simp only [List.map_cons, List.map_nil, tot] at h2
  omega
theorem PkV.join {cs : List CM} {i : Nat} {ini : List CM} {m : CM} (hi : i < cs.length) (hv : ∀ c ∈ cs, VC c.c) (ht : tot (cs.map CM.c) ≤ 2147483647) (h : PkV cs i (ini ++ [m])) (hk : cont m.c cs[i].c = true) : PkV cs (i + 1) (ini ++ [⟨longer m.c cs[i].c.len, m.cv⟩]) := by
  have hl := h.len hi hv ht
  refine ⟨fun x hx => ?_, ?_⟩
  · rcases List.mem_append.1 hx with h1 | h1
    · exact h.1 x (List.mem_append_left _ h1)
    · rw [List.mem_singleton.1 h1]
      exact (h.1 m (by simp)).longer (hv _ (List.getElem_mem hi)) hk hl.2
  · have h2 := h.2
    rw [List.map_append, tot_append] at h2
    rw [tot_take hi, List.map_append, tot_append]
    simp [tot, longer] at h2 ⊢
    omega
set_option maxRecDepth 20000 in
set_option maxHeartbeats 4000000 in
theorem requal_core (k : Nat) (hk22 : 22 = k) (cs ds : List CM) (v1 v2 : Value) (w : World) (h1 : TrR w v1 cs) (h2 : TrR w v2 ds) (hn : cs.length ≤ 1000000) (hl : ∀ c ∈ cs, c.c.ch.length ≤ 4611686018427387904) :
    Calls Tryz.prog 18 #[v1, v2] w fun e w' => e = .returned (.bool (decide (cs.map CM.c = ds.map CM.c))) ∧ Gr w w' := by
  have aE : ∀ w, (isAgg 81).run Tryz.prog w = .ok true w := Tryz.isAgg81
  have zE : ∀ w, (Go.sizeOf 81).run Tryz.prog w = .ok k w := fun w => by rw [← hk22]; exact Tryz.sizeOf81 w
  replace hk22 := Lib.hid hk22
  obtain ⟨a1, cap1, rfl, ha1⟩ := h1.shape
  obtain ⟨a2, cap2, rfl, ha2⟩ := h2.shape
  have hc1 := Lib.hid h1.ch
  have hc2 := Lib.hid h2.ch
  replace ha1 := Lib.hid ha1
  replace ha2 := Lib.hid ha2
  replace hl := Lib.hid hl
  clear h1 h2
  go_enter Tryz.func18, Tryz.ntmps18
  by_cases c6 : cs.length = ds.length
  · have q6 : (!((cs.length : Int) == (ds.length : Int))) = false := by simp [c6]
    go_wp2
    go_loopw [5] (fun i wr => ∃ j : Nat, j ≤ cs.length ∧ i = .int .i64 j ∧ Hid ((cs.take j).map CM.c = (ds.take j).map CM.c) ∧ Gr w wr) (fun i _ => cs.length - (RowKit.intOf i).toNat)
    case atStart => exact ⟨0, Nat.zero_le _, rfl, Lib.hid rfl, Gr.refl _⟩
    case round =>
      obtain ⟨j, hj, rfl, hno, hg⟩ := hrel
      by_cases c1 : j < cs.length
      · have c2 : j < ds.length := by omega
        have q1 : decide ((j : Int) < (cs.length : Int)) = true := decide_eq_true (by omega)
        rcases ha1.out with h0 | ⟨b1, o1, rfl, hb1, hx1⟩
        · omega
        rcases ha2.out with h0 | ⟨b2, o2, rfl, hb2, hx2⟩
        · omega
        have hy1 : b1 < wr.heap.size := Nat.lt_of_lt_of_le hb1 hg.size
        have hy2 : b2 < wr.heap.size := Nat.lt_of_lt_of_le hb2 hg.size
        have HS : Hid (∀ w', Gr wr w' → Calls Tryz.prog 47 #[cs[j].val, ds[j].val] w' fun e w'' => e = .returned (.bool (decide (cs[j].c = ds[j].c))) ∧ Gr w' w'') := Lib.hid fun w' hg' => rsame_any cs[j] ds[j] w' ((hc1.out _ (List.getElem_mem c1)).gr (hg.trans hg')) ((hc2.out _ (List.getElem_mem c2)).gr (hg.trans hg')) (hl.out _ (List.getElem_mem c1))
        have hz1 : ∀ (x : Nat) (u : Value), cs[j].cells[x]? = some u → wr.cell? ⟨b1, o1 + j * 22 + x, none⟩ = some u := fun x u hu => (hg.cells.1 b1 _ hb1).trans (hx1 j c1 x u hu)
        have hz2 : ∀ (x : Nat) (u : Value), ds[j].cells[x]? = some u → wr.cell? ⟨b2, o2 + j * 22 + x, none⟩ = some u := fun x u hu => (hg.cells.1 b2 _ hb2).trans (hx2 j c2 x u hu)
        have hall : cs[j].c = ds[j].c → (cs.take (j + 1)).map CM.c = (ds.take (j + 1)).map CM.c := fun e => by
          rw [← List.take_append_getElem c1, ← List.take_append_getElem c2, List.map_append, List.map_append, hno.out]
          simp [e]
        have hbad : cs[j].c ≠ ds[j].c → cs.map CM.c ≠ ds.map CM.c := fun e h => e (by
          have h3 : (cs.map CM.c)[j]? = (ds.map CM.c)[j]? := by rw [h]
          simpa [c1, c2] using h3)
        obtain ⟨l1, hl1⟩ : ∃ l1, cs[j].cells = l1 := ⟨_, rfl⟩
        obtain ⟨l2, hl2⟩ : ∃ l2, ds[j].cells = l2 := ⟨_, rfl⟩
        have hk1 : l1.length = k := by rw [← hl1, ← hk22.out]; rfl
        have hk2 : l2.length = k := by rw [← hl2, ← hk22.out]; rfl
        unfold CM.val at HS
        rw [hl1] at HS hz1
        rw [hl2] at HS hz2
        have lq : ∀ x : GW wr, Sem.run Tryz.prog (loadCellsFrom ⟨b1, o1 + j * k, none⟩ 0 k #[]) x.w = .ok l1.toArray x.w := fun x => by
          rw [show j * k = j * 22 by rw [← hk22.out]]
          exact ld_row hk1 fun y u hu => (x.h.cells.1 b1 _ hy1).trans (hz1 y u hu)
        have lr : ∀ x : GW wr, Sem.run Tryz.prog (loadCellsFrom ⟨b2, o2 + j * k, none⟩ 0 k #[]) x.w = .ok l2.toArray x.w := fun x => by
          rw [show j * k = j * 22 by rw [← hk22.out]]
          exact ld_row hk2 fun y u hu => (x.h.cells.1 b2 _ hy2).trans (hz2 y u hu)
        have hj2 : (0 : Int) ≤ (j : Int) ∧ (j : Int) < (ds.length : Int) := by omega
        clear hl1 hl2 hz1 hz2 hx1 hx2 hno
        generalize cs[j].c = x at *
        generalize ds[j].c = y at *
        by_cases cx : x = y
        · rw [decide_eq_true cx] at HS
          have hall := Lib.hid (hall cx)
          clear hbad
          replace cx := Lib.hid cx
          go_upto_region 6 with fail
          refine wp_region_gr (by kernel_rfl) (by kernel_rfl) (fun hq1 hq2 => ?_)
          repeat (first | go_big_quiet_skip | (go_big_quiet_want; go_big_quiet_op; first | go_big_quiet_on | (apply Exists.intro; refine ⟨fun _ => ?_, ?_⟩; (· ((go_at_call 47; exact gr_call (HS.out _ (GW.h _))))); go_big_quiet_on)))
          refine wpQuiet_nil ?_
          clear hq1 hq2
          rintro w1 ⟨⟨_, hg1⟩, rfl⟩
          obtain ⟨hc1, hf1⟩ := hg1.cells
          have hz1 := hg1.size
          (try simp at hz1); (try have hl1_0_0 : w.heap.size < w1.heap.size := by omega); (try have hm1_0_0 : w.heap.size ≤ w1.heap.size := by omega); (try have hl1_0_1 : w.heap.size + 1 < w1.heap.size := by omega); (try have hl1_0_2 : w.heap.size + 2 < w1.heap.size := by omega)
          go_wp2
          go_roundw
          case rel => exact ⟨j + 1, by omega, by go_num, hall, hg.trans hg1⟩
          case measure => simp [RowKit.intOf]; omega
        · rw [decide_eq_false cx] at HS
          have hbad := Lib.hid (hbad cx)
          clear hall
          go_upto_region 6 with fail
          refine wp_region_gr (by kernel_rfl) (by kernel_rfl) (fun hq1 hq2 => ?_)
          repeat (first | go_big_quiet_skip | (go_big_quiet_want; go_big_quiet_op; first | go_big_quiet_on | (apply Exists.intro; refine ⟨fun _ => ?_, ?_⟩; (· ((go_at_call 47; exact gr_call (HS.out _ (GW.h _))))); go_big_quiet_on)))
          refine wpQuiet_nil ?_
          clear hq1 hq2
          rintro w1 ⟨⟨_, hg1⟩, rfl⟩
          obtain ⟨hc1, hf1⟩ := hg1.cells
          have hz1 := hg1.size
          (try simp at hz1); (try have hl1_0_0 : w.heap.size < w1.heap.size := by omega); (try have hm1_0_0 : w.heap.size ≤ w1.heap.size := by omega); (try have hl1_0_1 : w.heap.size + 1 < w1.heap.size := by omega); (try have hl1_0_2 : w.heap.size + 2 < w1.heap.size := by omega)
          go_wp2
          go_ret
          exact ⟨by rw [decide_eq_false hbad.out]; rfl, hg.trans hg1⟩
      · have q1 : decide ((j : Int) < (cs.length : Int)) = false := decide_eq_false (by omega)
        have hst := hno.out
        rw [List.take_of_length_le (by omega), List.take_of_length_le (by omega)] at hst
        replace hst := Lib.hid hst
        go_wp2
        go_ret
        exact ⟨by rw [decide_eq_true hst.out]; rfl, hg⟩
  · have q6 : (!((cs.length : Int) == (ds.length : Int))) = true := by simp; omega
    have hbad := Lib.hid (show ¬ cs.map CM.c = ds.map CM.c from fun e => c6 (by have := congrArg List.length e; simpa using this))
    go_wp2
    go_ret
    exact ⟨by rw [decide_eq_false hbad.out]; rfl, (by repeat (first | with_reducible exact Gr.refl _ | with_reducible assumption | refine Gr.setCell ?_ (by first | omega | (simp; done) | (simp; omega)) _ | refine Gr.alloc ?_ _ | refine Gr.drew ?_ | refine Gr.drewN ?_ _ | refine Gr.trans ?_ (by with_reducible assumption)))⟩
theorem requal_any (cs ds : List CM) (v1 v2 : Value) (w : World) (h1 : TrR w v1 cs) (h2 : TrR w v2 ds) (hn : cs.length ≤ 1000000) (hl : ∀ c ∈ cs, c.c.ch.length ≤ 4611686018427387904) :
    Calls Tryz.prog 18 #[v1, v2] w fun e w' => e = .returned (.bool (decide (cs.map CM.c = ds.map CM.c))) ∧ Gr w w' := requal_core 22 rfl cs ds v1 v2 w h1 h2 hn hl
end Go.Proofs.YtgbiodnfpbhjiaaGreatDoor
