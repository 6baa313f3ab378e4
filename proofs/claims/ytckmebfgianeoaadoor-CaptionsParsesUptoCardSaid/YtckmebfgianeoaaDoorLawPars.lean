/-
  Walk of the law CaptionsParses.
  Conditions: the string is at most 1,048,576 bytes long; the numbers lie in memory.
-/
import Derived.Test.YtckmebfgianeoaaDoorLawCuts
import Derived.Test.YtckmebfgianeoaaDoorMathPh
import Derived.Test.YtckmebfgianeoaaDoorReg6
import Derived.Laws.IdiomStrings
import Derived.Deep.DeepCutAuto
namespace Go.Proofs.YtckmebfgianeoaaDoor
open Go.RowKit Go.Lib
set_option linter.unusedSimpArgs false
set_option linter.unusedVariables false

def byV (l : List UInt8) : List Value := l.map fun b => Value.int .u8 (b.toNat : Int)
theorem bytes_conv (w : World) (s : ByteArray) : ∃ cap V, (convert 9 53 (.string s)).run Tryd.prog w = .ok (.slice (some ⟨w.heap.size, 0, none⟩) s.size cap) V ∧ Gr w V ∧ Cel V w.heap.size (byV s.data.toList) := by
  refine ⟨_, _, run_bytes_of_string (P := Tryd.prog) w 9 53 5 s Tryd.underlying9 Tryd.underlying53 Tryd.underlying5, (Gr.refl w).drew.alloc _, ?_⟩
  generalize grownCap w s.size 0 5 = cap
  refine ⟨by simp, fun j v hj => ?_⟩
  have hl : j < s.data.size := by
    have := (List.getElem?_eq_some_iff.1 hj).1
    unfold byV at this
    simpa using this
  have hv : v = .int .u8 (s.data[j].toNat : Int) := by
    unfold byV at hj
    simp [List.getElem?_map] at hj
    obtain ⟨b, hb, rfl⟩ := hj
    rw [Array.getElem?_eq_getElem hl] at hb
    injection hb with hb
    rw [hb]
  refine ⟨?_, ?_⟩
  · have := World.cell?_alloc_mark w.drew (bytesRow s cap) 5 ((bytesRow s cap).size, (bytesRow s cap).size + 1) j
    rw [hv, ← bytesRow_at s cap j hl]
    exact this
  · have := World.frozen?_alloc_mark w.drew (bytesRow s cap) 5 (bytesRow s cap).size ((bytesRow s cap).size + 1) j
    refine this.trans ?_
    have h2 : j < (bytesRow s cap).size := by have : s.data.size = s.size := rfl; unfold bytesRow; simp; omega
    rw [decide_eq_false (by omega)]
    rfl
theorem bytes_back (w : World) (g cap : Nat) (l : List UInt8) (h : Cel w g (byV l)) : (convert 53 9 (.slice (some ⟨g, 0, none⟩) l.length cap)).run Tryd.prog w = .ok (.string ⟨l.toArray⟩) w :=
  run_convert_bytes_back w 53 9 5 ⟨g, 0, none⟩ cap l Tryd.underlying53 Tryd.underlying5 Tryd.underlying9 (fun j hj => by
    have := (h.2 j (.int .u8 (l[j].toNat : Int)) (by unfold byV; simp [hj])).1
    simpa [Addr.add_lit] using this)
theorem byV_set (l : List UInt8) (k : Nat) (c : Int) (hc : 0 ≤ c ∧ c ≤ 255) : (byV l).set k (.int .u8 c) = byV (l.set k (UInt8.ofNat c.toNat)) := by
  unfold byV
  rw [List.map_set]
  congr 2
  have : (UInt8.ofNat c.toNat).toNat = c.toNat := by rw [UInt8.toNat_ofNat']; omega
  rw [this]
  omega
theorem spot {x L : Int} (h0 : 0 < L) (h1 : L ≤ 4611686018427387904) : 0 ≤ (wrap64 (x.tmod L + L)).tmod L ∧ (wrap64 (x.tmod L + L)).tmod L < L := by
  have h2 := Int.tmod_lt_of_pos x h0
  have h3 := Int.lt_tmod_of_pos x h0
  rw [show wrap64 (x.tmod L + L) = x.tmod L + L by unfold wrap64; omega]
  exact ⟨Int.tmod_nonneg _ (by omega), Int.tmod_lt_of_pos _ h0⟩

set_option maxRecDepth 20000 in
set_option maxHeartbeats 4000000 in
theorem lawPars_walk (s : ByteArray) (a : Option Addr) (cap : Nat) (xs : List Int) (at_ c rn rd : Int) (w : World) (hs : s.size ≤ 1048576) (hA : TapeArg w a cap xs) (hat : I64 at_) (hc : 0 ≤ c ∧ c ≤ 255) (hn : I64 rn) (hd : I64 rd) (hT : Pow w) (hM : Mx w) :
    Calls Tryd.prog 9 #[.string s, .slice a xs.length cap, .int .i64 at_, .int .u8 c, .agg #[.int .i64 rn, .int .i64 rd]] w fun e w' => e = .returned (.bool true) ∧ Gr w w' := by
  have HM : Hid (∀ w', Gr w w' → Calls Tryd.prog 13 #[.slice a xs.length cap] w' fun e w'' => ∃ v cs, e = .returned v ∧ Gr w' w'' ∧ Cues w'' v cs ∧ Made cs) := fun w' hg => made_any a cap xs w' (hA.gr hg)
  have HW : Hid (∀ w', Gr w w' → Calls Tryd.prog 17 #[] w' fun e w'' => e = .returned (.bool true) ∧ Gr w' w'') := fun w' hg => awake_any w' (Pow.gr hg hT)
  have HU : Hid (∀ w', Calls Tryd.prog 31 #[.agg #[.int .i64 30000, .int .i64 1001]] w' fun e w'' => e = .returned (.bool true) ∧ Gr w' w'') := fun w' => by
    have := rusable_any 30000 1001 w' ⟨by omega, by omega⟩ ⟨by omega, by omega⟩
    rw [show usB 30000 1001 = true by decide +kernel] at this
    exact this
  have HG : Hid (∀ w' v cs, Gr w w' → Cues w' v cs → Made cs → Calls Tryd.prog 27 #[v, .agg #[.int .i64 30000, .int .i64 1001]] w' fun e w'' => ∃ G : ByteArray, e = .returned (.tuple #[.string G, .int .i64 0]) ∧ Gr w' w'' ∧ G.size ≤ 3200) := fun w' v cs hg h1 h2 => by
    refine (cformat_any v cs 30000 1001 w' h1 ⟨by omega, by omega⟩ ⟨by omega, by omega⟩ (Pow.gr hg hT) (by have := h2.n; omega)).mono ?_
    rintro e w'' ⟨rfl, hg2⟩
    rw [made_zero h2]
    exact ⟨_, rfl, hg2, made_len h2⟩
  have HP1 : Hid (∀ (x : ByteArray) (kn kd : Int) w', Gr w w' → x.size < 4294967281 → I64 kn → I64 kd → Calls Tryd.prog 29 #[.string x, .agg #[.int .i64 kn, .int .i64 kd]] w' fun e w'' => ∃ lv cs f, e = .returned (.tuple #[lv, .int .i64 f]) ∧ Gr w' w'' ∧ Cues w'' lv cs ∧ Hid (PsR kn kd x.data.toList f cs) ∧ cs.length < 4294967281) := fun x kn kd w' hg h1 h2 h3 => cparse_all x kn kd w' h2 h3 h1 (hM.gr hg) (Pow.gr hg hT)
  have HP2 : Hid (∀ (x : ByteArray) (kn kd : Int) w', Gr w w' → x.size < 4294967281 → I64 kn → I64 kd → Calls Tryd.prog 30 #[.string x, .agg #[.int .i64 kn, .int .i64 kd]] w' fun e w'' => ∃ lv cs f, e = .returned (.tuple #[lv, .int .i64 f]) ∧ Gr w' w'' ∧ Cues w'' lv cs ∧ Hid (PsR kn kd x.data.toList f cs) ∧ cs.length < 4294967281) := fun x kn kd w' hg h1 h2 h3 => rparse_all x kn kd w' h2 h3 h1 trivial (Pow.gr hg hT)
  have HSm : Hid (∀ v1 v2 cs1 cs2 w', Cues w' v1 cs1 → Cues w' v2 cs2 → cs1.map cAbs = cs2.map cAbs → Calls Tryd.prog 16 #[v1, v2] w' fun e w'' => e = .returned (.bool true) ∧ Gr w' w'') := fun v1 v2 cs1 cs2 w' h1 h2 h3 => by
    have := same_any v1 v2 cs1 cs2 w' h1 h2
    rw [decide_eq_true h3] at this
    exact this
  have HFm : Hid (∀ v (cs : List Cu) (kn kd f : Int) (x : ByteArray) w', Gr w w' → Cues w' v cs → I64 kn → I64 kd → cs.length < 4294967281 → PsR kn kd x.data.toList f cs → f = 0 → Calls Tryd.prog 27 #[v, .agg #[.int .i64 kn, .int .i64 kd]] w' fun e w'' => e = .returned (.tuple #[.string x, .int .i64 0]) ∧ Gr w' w'') := fun v cs kn kd f x w' hg h1 h2 h3 h4 h5 h6 => cformat_back v cs kn kd x w' h1 h2 h3 (Pow.gr hg hT) h4 (h5.fmt h6).1 (h5.fmt h6).2
  have hk0 := (Cel.new w #[.int .i64 rn, .int .i64 rd] 47).alloc (.cells #[.int .i64 30000, .int .i64 1001] 47)
  have hk1 := Cel.new (w.alloc (.cells #[.int .i64 rn, .int .i64 rd] 47)) #[.int .i64 30000, .int .i64 1001] 47
  rw [show (w.alloc (.cells #[.int .i64 rn, .int .i64 rd] 47)).heap.size = w.heap.size + 1 by simp] at hk1
  have hgV : Gr w ((w.alloc (.cells #[.int .i64 rn, .int .i64 rd] 47)).alloc (.cells #[.int .i64 30000, .int .i64 1001] 47)) := ((Gr.refl w).alloc _).alloc _
  simp only [List.toList_toArray] at hk0 hk1
  go_enter Tryd.func9, Tryd.ntmps9
  go_wp2
  generalize (w.alloc (.cells #[.int .i64 rn, .int .i64 rd] 47)).alloc (.cells #[.int .i64 30000, .int .i64 1001] 47) = V at *
  obtain ⟨K0, hK0⟩ : ∃ K0, w.heap.size = K0 := ⟨_, rfl⟩
  obtain ⟨K1, hK1⟩ : ∃ K1, w.heap.size + 1 = K1 := ⟨_, rfl⟩
  (try rw [hK1] at hk1 ⊢)
  (try rw [hK0] at hk0 ⊢)
  clear hK0 hK1
  replace hk0 := hk0.drew
  replace hk1 := hk1.drew
  replace hgV := hgV.drew
  refine wp_region_still (Keep 9 (fun x => Cel x K1 [.int .i64 30000, .int .i64 1001])) 9 rfl (by kernel_rfl) ?_
  show stillAny _ _ _ _ _ _ #[false, false, false, false, false, false, false, false, false] _ _
  refine still_pure 0 (v := .slice a xs.length cap) rfl (by kernel_rfl) (by kernel_rfl) (by kernel_rfl) (fun _ => hk1) rfl (fun w hw => ?_) ?_
  · simp [execOp, go_sem] <;> (intros; omega)
  simp only [Act.put, List.setIfInBounds_toArray, List.set_cons_succ, List.set_cons_zero]
  refine still_pure 2 (v := .agg #[.int .i64 30000, .int .i64 1001]) rfl (by kernel_rfl) (by kernel_rfl) (by kernel_rfl) (fun _ => hk1) rfl (fun w hw => ?_) ?_
  · replace hw := hw (by decide)
    obtain ⟨hq0, hq1, hq2, hq3, hq4⟩ := hw.two
    simp [execOp, go_sem, hq0, hq1, hq2, hq3]
  simp only [Act.put, List.setIfInBounds_toArray, List.set_cons_succ, List.set_cons_zero]
  refine still_next (j := 1) (by kernel_rfl) (by rfl) (fun R hR => ?_)
  (try simp only [List.getElem_toArray, List.getElem_cons_succ, List.getElem_cons_zero])
  go_wp2_with (go_at_call 13; (with_reducible refine (HM.out _ hgV).mono ?_); rintro e w1 ⟨mv, mcs, rfl, hgm, hMc, hMd⟩; obtain ⟨mp, mc, hmv, hmh⟩ := hMc.at_.shape; subst hmv; clear hmh; have hMc := Lib.hid hMc; have hMd := Lib.hid hMd)
  replace hk0 := hk0.gr hgm
  replace hk1 := hk1.gr hgm
  refine only_normal (hR _ _ (Keep.step (fun _ => hk1)) ?_)
  clear hR R
  simp only [Act.put, List.setIfInBounds_toArray, List.set_cons_succ, List.set_cons_zero]
  refine still_next (j := 3) (by kernel_rfl) (by rfl) (fun R hR => ?_)
  (try simp only [List.getElem_toArray, List.getElem_cons_succ, List.getElem_cons_zero])
  go_wp2_with (go_at_call 27; (with_reducible refine (HG.out _ _ mcs (hgV.trans hgm) hMc.out hMd.out).mono ?_); rintro e w2 ⟨G, rfl, hg2, hGz⟩)
  replace hk0 := hk0.gr hg2
  replace hk1 := hk1.gr hg2
  refine only_normal (hR _ _ (Keep.step (fun _ => hk1)) ?_)
  clear hR R
  simp only [Act.put, List.setIfInBounds_toArray, List.set_cons_succ, List.set_cons_zero]
  refine still_pure 4 (v := .tuple #[.string G, .int .i64 0]) rfl (by kernel_rfl) (by kernel_rfl) (by kernel_rfl) (fun _ => hk1) rfl (fun w hw => ?_) ?_
  · simp [execOp, go_sem] <;> (intros; omega)
  simp only [Act.put, List.setIfInBounds_toArray, List.set_cons_succ, List.set_cons_zero]
  refine still_pure 5 (v := .string G) rfl (by kernel_rfl) (by kernel_rfl) (by kernel_rfl) (fun _ => hk1) rfl (fun w hw => ?_) ?_
  · simp [execOp, go_sem] <;> (intros; omega)
  simp only [Act.put, List.setIfInBounds_toArray, List.set_cons_succ, List.set_cons_zero]
  refine still_pure 6 (v := .int .i64 0) rfl (by kernel_rfl) (by kernel_rfl) (by kernel_rfl) (fun _ => hk1) rfl (fun w hw => ?_) ?_
  · simp [execOp, go_sem] <;> (intros; omega)
  simp only [Act.put, List.setIfInBounds_toArray, List.set_cons_succ, List.set_cons_zero]
  refine still_pure 7 (v := .string G) rfl (by kernel_rfl) (by kernel_rfl) (by kernel_rfl) (fun _ => hk1) rfl (fun w hw => ?_) ?_
  · simp [execOp, go_sem] <;> (intros; omega)
  simp only [Act.put, List.setIfInBounds_toArray, List.set_cons_succ, List.set_cons_zero]
  refine still_pure 8 (v := .int .i64 0) rfl (by kernel_rfl) (by kernel_rfl) (by kernel_rfl) (fun _ => hk1) rfl (fun w hw => ?_) ?_
  · simp [execOp, go_sem] <;> (intros; omega)
  simp only [Act.put, List.setIfInBounds_toArray, List.set_cons_succ, List.set_cons_zero]
  refine still_done (by kernel_rfl) ?_
  have hw2 := (hgV.trans hgm).trans hg2
  obtain ⟨bc, V3, kb, hg3, hB3⟩ := bytes_conv w2 G
  have hk0b := hk0
  have hk1b := hk1
  replace hk0 := hk0.gr hg3
  replace hk1 := hk1.gr hg3
  have hw3 := hw2.trans hg3
  have hlt0 : K0 < w2.heap.size := hk0b.lt
  have hlt1 : K1 < w2.heap.size := hk1b.lt
  have hw2z := hw2.size
  clear hMc hMd HM HG hgm hg2 hgV hw2 hg3 hk0b hk1b
  go_upto_if 39 with fail
  go_cut [14] (fun b wx => ∃ l : List UInt8, b = .slice (some ⟨w2.heap.size, 0, none⟩) l.length bc ∧ l.length = G.size ∧ Cel wx w2.heap.size (byV l) ∧ Cel wx K0 [.int .i64 rn, .int .i64 rd] ∧ Cel wx K1 [.int .i64 30000, .int .i64 1001] ∧ Gr w wx)
  case first => as_aux_lemma =>
    by_cases h0 : 0 < G.size
    · have q1 : decide (0 < G.size) = true := decide_eq_true h0
      obtain ⟨z, hz⟩ : ∃ z : Nat, (wrap64 (at_.tmod (G.size : Int) + (G.size : Int))).tmod (G.size : Int) = (z : Int) := by
        have := spot (x := at_) (L := (G.size : Int)) (by omega) (by omega)
        exact ⟨((wrap64 (at_.tmod (G.size : Int) + (G.size : Int))).tmod (G.size : Int)).toNat, by omega⟩
      have hzl : z < G.size := by
        have := spot (x := at_) (L := (G.size : Int)) (by omega) (by omega)
        omega
      have hne : ¬ G.size = 0 := by omega
      obtain ⟨y, c0, f0⟩ : ∃ y, V3.cell? ⟨w2.heap.size, z, none⟩ = some y ∧ V3.frozen? ⟨w2.heap.size, z, none⟩ = false := by
        obtain ⟨h1, h2⟩ := hB3.2 z ((byV G.data.toList)[z]'(by unfold byV; simpa using hzl)) (by simp)
        exact ⟨_, h1, h2⟩
      have h10 : w2.heap.size ≠ K0 := fun e => by have := hlt0; omega
      have h11 : w2.heap.size ≠ K1 := fun e => by have := hlt1; omega
      have hBs := hB3.set (k := z) (by unfold byV; simpa using hzl) (.int .u8 c)
      rw [byV_set _ _ _ hc] at hBs
      have hk0s := hk0.other (p := ⟨w2.heap.size, z, none⟩) h10 (.int .u8 c)
      have hk1s := hk1.other (p := ⟨w2.heap.size, z, none⟩) h11 (.int .u8 c)
      have hws : Gr w (V3.setCell ⟨w2.heap.size, z, none⟩ (.int .u8 c)) := hw3.grown (grown_setCell _ _ _) (fun k hk => by have hk2 : w2.heap.size = k := (by simpa using hk); have := hw2z; omega)
      go_wp2_with fail
      go_meet
      exact ⟨G.data.toList.set z (UInt8.ofNat c.toNat), by simp, by simp, hBs, hk0s, hk1s, hws⟩
    · have q1 : decide (0 < G.size) = false := decide_eq_false h0
      go_wp2_with fail
      go_meet
      exact ⟨G.data.toList, by simp, by simp, hB3, hk0, hk1, hw3⟩
  case rest =>
    obtain ⟨l, rfl, hl, hB, hk0, hk1, hgw⟩ := hcut
    obtain ⟨H, hH⟩ : ∃ H, w2.heap.size = H := ⟨_, rfl⟩
    rw [hH] at hB ⊢
    clear hH hlt0 hlt1 hw2z hB3 hw3 kb
    go_wp2_with fail
    have ks : ∀ w, (Op.stringOp .add G s).run Tryd.prog w = .ok (.string (G ++ s)) w := fun w => run_string_add_sum w G s (by omega)
    have hsG := Lib.hid (show (G ++ s).size ≤ 1051776 by rw [ByteArray.size_append]; omega)
    obtain ⟨n2, hn2⟩ : ∃ n2, G.size / 2 = n2 := ⟨_, rfl⟩
    have hq : ((G.size : Int)).tdiv 2 = (n2 : Int) := by rw [← hn2, Int.tdiv_eq_ediv_of_nonneg (by omega)]; omega
    have hzl : (⟨l.toArray⟩ : ByteArray).size ≤ 3200 := by show l.toArray.size ≤ 3200; simp; omega
    have hze : (G.extract 0 n2).size ≤ 3200 := by rw [ByteArray.size_extract]; omega
    obtain ⟨bl, hbl⟩ : ∃ bl : ByteArray, (⟨l.toArray⟩ : ByteArray) = bl := ⟨_, rfl⟩
    have hzb : bl.size ≤ 3200 := by rw [← hbl]; exact hzl
    replace hB := hB.drew
    replace hk0 := hk0.drew
    replace hk1 := hk1.drew
    replace hgw := hgw.drew
    refine wp_region_still (Keep 14 (fun x => Cel x H (byV l))) 14 rfl (by kernel_rfl) ?_
    show stillAny _ _ _ _ _ _ #[false, false, false, false, false, false, false, false, false, false, false, false, false, false] _ _
    generalize wc.drew = U at *
    refine still_pure 0 (v := .string s) rfl (by kernel_rfl) (by kernel_rfl) (by kernel_rfl) (fun _ => hB) rfl (fun w hw => ?_) ?_
    · simp [execOp, go_sem] <;> (intros; omega)
    simp only [Act.put, List.setIfInBounds_toArray, List.set_cons_succ, List.set_cons_zero]
    refine still_pure 1 (v := .slice (some ⟨H, 0, none⟩) l.length bc) rfl (by kernel_rfl) (by kernel_rfl) (by kernel_rfl) (fun _ => hB) rfl (fun w hw => ?_) ?_
    · simp [execOp, go_sem] <;> (intros; omega)
    simp only [Act.put, List.setIfInBounds_toArray, List.set_cons_succ, List.set_cons_zero]
    refine still_pure 2 (v := .string bl) rfl (by kernel_rfl) (by kernel_rfl) (by kernel_rfl) (fun _ => hB) rfl (fun w hw => ?_) ?_
    · have hq0 := bytes_back w H bc l (hw (by decide))
      rw [hbl] at hq0
      simp [execOp, go_sem, hq0]
    simp only [Act.put, List.setIfInBounds_toArray, List.set_cons_succ, List.set_cons_zero]
    refine still_pure 3 (v := .string G) rfl (by kernel_rfl) (by kernel_rfl) (by kernel_rfl) (fun _ => hB) rfl (fun w hw => ?_) ?_
    · simp [execOp, go_sem] <;> (intros; omega)
    simp only [Act.put, List.setIfInBounds_toArray, List.set_cons_succ, List.set_cons_zero]
    refine still_pure 4 (v := .string s) rfl (by kernel_rfl) (by kernel_rfl) (by kernel_rfl) (fun _ => hB) rfl (fun w hw => ?_) ?_
    · simp [execOp, go_sem] <;> (intros; omega)
    simp only [Act.put, List.setIfInBounds_toArray, List.set_cons_succ, List.set_cons_zero]
    refine still_pure 5 (v := .string (G ++ s)) rfl (by kernel_rfl) (by kernel_rfl) (by kernel_rfl) (fun _ => hB) rfl (fun w hw => ?_) ?_
    · simp [execOp, go_sem, ks]
    simp only [Act.put, List.setIfInBounds_toArray, List.set_cons_succ, List.set_cons_zero]
    refine still_pure 6 (v := .string G) rfl (by kernel_rfl) (by kernel_rfl) (by kernel_rfl) (fun _ => hB) rfl (fun w hw => ?_) ?_
    · simp [execOp, go_sem] <;> (intros; omega)
    simp only [Act.put, List.setIfInBounds_toArray, List.set_cons_succ, List.set_cons_zero]
    refine still_pure 7 (v := .string G) rfl (by kernel_rfl) (by kernel_rfl) (by kernel_rfl) (fun _ => hB) rfl (fun w hw => ?_) ?_
    · simp [execOp, go_sem] <;> (intros; omega)
    simp only [Act.put, List.setIfInBounds_toArray, List.set_cons_succ, List.set_cons_zero]
    refine still_pure 8 (v := .int .i64 G.size) rfl (by kernel_rfl) (by kernel_rfl) (by kernel_rfl) (fun _ => hB) rfl (fun w hw => ?_) ?_
    · simp [execOp, go_sem] <;> (intros; omega)
    simp only [Act.put, List.setIfInBounds_toArray, List.set_cons_succ, List.set_cons_zero]
    refine still_pure 9 (v := .int .i64 n2) rfl (by kernel_rfl) (by kernel_rfl) (by kernel_rfl) (fun _ => hB) rfl (fun w hw => ?_) ?_
    · simp [execOp, go_sem, hq, IntKind.wrap_i64]
      omega
    simp only [Act.put, List.setIfInBounds_toArray, List.set_cons_succ, List.set_cons_zero]
    refine still_pure 10 (v := .string (G.extract 0 n2)) rfl (by kernel_rfl) (by kernel_rfl) (by kernel_rfl) (fun _ => hB) rfl (fun w hw => ?_) ?_
    · have i1 : n2 ≤ G.size := by omega
      simp [execOp, go_sem, i1]
    simp only [Act.put, List.setIfInBounds_toArray, List.set_cons_succ, List.set_cons_zero]
    refine still_pure 13 (v := .int .i64 0) rfl (by kernel_rfl) (by kernel_rfl) (by kernel_rfl) (fun _ => hB) rfl (fun w hw => ?_) ?_
    · simp [execOp, go_sem] <;> (intros; omega)
    simp only [Act.put, List.setIfInBounds_toArray, List.set_cons_succ, List.set_cons_zero]
    refine still_next (j := 11) (by kernel_rfl) (by rfl) (fun R hR => ?_)
    (try simp only [List.getElem_toArray, List.getElem_cons_succ, List.getElem_cons_zero])
    go_wp2_with fail
    have hBx := hB.alloc (.cells #[.string s, .string bl, .string (G ++ s), .string (G.extract 0 n2)] 9)
    refine only_normal (hR _ _ (Keep.step (fun _ => hBx)) ?_)
    clear hR R
    simp only [Act.put, List.setIfInBounds_toArray, List.set_cons_succ, List.set_cons_zero]
    refine still_pure 12 (v := .int .i64 4) rfl (by kernel_rfl) (by kernel_rfl) (by kernel_rfl) (fun _ => hBx) rfl (fun w hw => ?_) ?_
    · simp [execOp, go_sem] <;> (intros; omega)
    simp only [Act.put, List.setIfInBounds_toArray, List.set_cons_succ, List.set_cons_zero]
    refine still_done (by kernel_rfl) ?_
    simp only [List.getElem_toArray, List.getElem_cons_succ, List.getElem_cons_zero, List.setIfInBounds_toArray, List.set_cons_succ, List.set_cons_zero]
    go_wp2
    have hX := Cel.new U #[.string s, .string bl, .string (G ++ s), .string (G.extract 0 n2)] 9
    replace hk0 := hk0.alloc (.cells #[.string s, .string bl, .string (G ++ s), .string (G.extract 0 n2)] 9)
    replace hk1 := hk1.alloc (.cells #[.string s, .string bl, .string (G ++ s), .string (G.extract 0 n2)] 9)
    replace hgw := hgw.alloc (.cells #[.string s, .string bl, .string (G ++ s), .string (G.extract 0 n2)] 9)
    simp only [List.toList_toArray] at hX
    clear hB hBx ks hq hn2 hbl hl
    generalize U.alloc (.cells #[.string s, .string bl, .string (G ++ s), .string (G.extract 0 n2)] 9) = U1 at *
    generalize U.heap.size = X at *
    obtain ⟨x2, hx2⟩ : ∃ x2, G ++ s = x2 := ⟨_, rfl⟩
    obtain ⟨x3, hx3⟩ : ∃ x3, G.extract 0 n2 = x3 := ⟨_, rfl⟩
    rw [hx2] at hX hsG
    rw [hx3] at hX hze
    clear hx2 hx3
    go_loopw [66] (fun k wr => ∃ kk : Nat, kk ≤ 4 ∧ k = .int .i64 kk ∧ Gr w wr ∧ Cel wr X [.string s, .string bl, .string x2, .string x3] ∧ Cel wr K0 [.int .i64 rn, .int .i64 rd] ∧ Cel wr K1 [.int .i64 30000, .int .i64 1001]) (fun k _ => 4 - (RowKit.intOf k).toNat)
    case atStart => exact ⟨0, by omega, rfl, hgw, hX, hk0, hk1⟩
    case round =>
      obtain ⟨kk, h3, rfl, hg, hXr, h0r, h1r⟩ := hrel
      clear hX hgw hk0 hk1
      by_cases c1 : kk < 4
      · have q1 : decide ((kk : Int) < 4) = true := decide_eq_true (by omega)
        obtain ⟨x, hcell, hxz⟩ : ∃ x : ByteArray, wr.cell? ⟨X, kk, none⟩ = some (.string x) ∧ x.size < 4294967281 := by
          rcases (show kk = 0 ∨ kk = 1 ∨ kk = 2 ∨ kk = 3 by omega) with rfl | rfl | rfl | rfl
          · exact ⟨s, (hXr.2 0 _ rfl).1, by omega⟩
          · exact ⟨bl, (hXr.2 1 _ rfl).1, by omega⟩
          · exact ⟨x2, (hXr.2 2 _ rfl).1, by have := hsG.out; omega⟩
          · exact ⟨x3, (hXr.2 3 _ rfl).1, by omega⟩
        have hXlt := hXr.lt
        obtain ⟨a1, a2, a3, a4, a5⟩ := h0r.two
        obtain ⟨b1, b2, b3, b4, b5⟩ := h1r.two
        have hXr := Lib.hid hXr
        have h0h := Lib.hid h0r
        have h1h := Lib.hid h1r
        have hP := Cel.new wr #[.int .i64 30000, .int .i64 1001, .int .i64 rn, .int .i64 rd] 47
        have hgP : Gr wr (wr.alloc (.cells #[.int .i64 30000, .int .i64 1001, .int .i64 rn, .int .i64 rd] 47)) := (Gr.refl wr).alloc _
        have hg3 := hg.trans hgP
        have hX3 := hXr.out.gr hgP
        have h03 := h0h.out.gr hgP
        have h13 := h1h.out.gr hgP
        clear h0r h1r
        go_wp2
        clear hgP hXr hcell hXlt hg h0h h1h a1 a2 a3 a4 a5 b1 b2 b3 b4 b5
        generalize wr.alloc (.cells #[.int .i64 30000, .int .i64 1001, .int .i64 rn, .int .i64 rd] 47) = V at *
        generalize wr.heap.size = Y at *
        go_loopw [74] (fun k wr => ∃ jj : Nat, jj ≤ 2 ∧ k = .int .i64 jj ∧ Gr w wr ∧ Cel wr Y [.int .i64 30000, .int .i64 1001, .int .i64 rn, .int .i64 rd] ∧ Cel wr X [.string s, .string bl, .string x2, .string x3] ∧ Cel wr K0 [.int .i64 rn, .int .i64 rd] ∧ Cel wr K1 [.int .i64 30000, .int .i64 1001]) (fun k _ => 2 - (RowKit.intOf k).toNat)
        case atStart => exact ⟨0, by omega, rfl, hg3, hP, hX3, h03, h13⟩
        case round =>
          obtain ⟨jj, hj, rfl, hg, hPr, hXr, h0r, h1r⟩ := hrel
          clear hP hg3 hX3 h03 h13
          by_cases cj : jj < 2
          · have q2 : decide ((jj : Int) < 2) = true := decide_eq_true (by omega)
            obtain ⟨kn, kd, n0, n1, hk1, hk2⟩ : ∃ kn kd : Int, wr.cell? ⟨Y, jj * 2, none⟩ = some (.int .i64 kn) ∧ wr.cell? ⟨Y, jj * 2 + 1, none⟩ = some (.int .i64 kd) ∧ I64 kn ∧ I64 kd := by
              rcases (show jj = 0 ∨ jj = 1 by omega) with rfl | rfl
              · exact ⟨30000, 1001, (hPr.2 0 _ rfl).1, (hPr.2 1 _ rfl).1, ⟨by omega, by omega⟩, ⟨by omega, by omega⟩⟩
              · exact ⟨rn, rd, (hPr.2 2 _ rfl).1, (hPr.2 3 _ rfl).1, hn, hd⟩
            have q4 : (x.toList == x.toList) = true := by simp
            have hPx := hPr.lt
            have hXr := Lib.hid hXr
            have hPr := Lib.hid hPr
            have h0r := Lib.hid h0r
            have h1r := Lib.hid h1r
            have HFx : Hid (∀ v (cs : List Cu) (f : Int) w', Gr w w' → Cues w' v cs → cs.length < 4294967281 → PsR kn kd x.data.toList f cs → f = 0 → Calls Tryd.prog 27 #[v, .agg #[.int .i64 kn, .int .i64 kd]] w' fun e w'' => e = .returned (.tuple #[.string x, .int .i64 0]) ∧ Gr w' w'') := fun v cs f w' a1 a2 a3 a4 a5 => HFm.out v cs kn kd f x w' a1 a2 hk1 hk2 a3 a4 a5
            clear HFm
            go_wp2_with (first
              | (go_at_call 29; (with_reducible refine (HP1.out x kn kd _ ?_ hxz hk1 hk2).mono ?_); (· exact hg.alloc _); rintro e w4 ⟨lv1, cs1, f1, rfl, hg4, hC4, hr4, hl4⟩; obtain ⟨p4, d4, rfl, hh4⟩ := hC4.at_.shape; clear hh4; have hC4 := Lib.hid hC4; have kX4 := (Cel.new wr #[.int .i64 kn, .int .i64 kd] 47).gr hg4; obtain ⟨e0, e1, e2, e3, e4⟩ := kX4.two)
              | (go_at_call 30; (with_reducible refine (HP2.out x kn kd _ ?_ hxz hk1 hk2).mono ?_); (· exact (hg.alloc _).trans hg4); rintro e w5 ⟨lv2, cs2, f2, rfl, hg5, hC5, hr5, hl5⟩; obtain ⟨p5, d5, rfl, hh5⟩ := hC5.at_.shape; clear hh5; have hC5 := Lib.hid hC5; have kX5 := kX4.gr hg5; obtain ⟨g0, g1, g2, g3, g4⟩ := kX5.two; obtain ⟨hff, hcc⟩ := hr4.out.same hr5.out; subst hff; have hcc := Lib.hid hcc; have q3 : (f1 != f1) = false := (by simp))
              | (go_at_call 16; (with_reducible refine (HSm.out _ _ cs1 cs2 _ ?_ hC5.out hcc.out).mono ?_); (· exact hC4.out.gr hg5); rintro e w6 ⟨rfl, hg6⟩; have kX6 := kX5.gr hg6; obtain ⟨i0, i1, i2, i3, i4⟩ := kX6.two; rcases Classical.em (f1 = 0) with he0 | he0; (have q5 : (f1 == 0) = true := by simp [he0]); rotate_left; (have q5 : (f1 == 0) = false := by simp [he0]); rotate_left)
              | (go_at_call 27; (with_reducible refine (HFx.out _ cs1 f1 _ ?_ ?_ hl4 hr4.out he0).mono ?_); (· exact (((hg.alloc _).trans hg4).trans hg5).trans hg6); (· exact (hC4.out.gr hg5).gr hg6); rintro e w7 ⟨rfl, hg7⟩))
            · have hgB : Gr wr w7 := ((((Gr.refl wr).alloc _).trans hg4).trans hg5 |>.trans hg6).trans hg7
              go_roundw
              case rel => exact ⟨jj + 1, by omega, by go_num, hg.trans hgB, hPr.out.gr hgB, hXr.out.gr hgB, h0r.out.gr hgB, h1r.out.gr hgB⟩
              case measure => simp [RowKit.intOf]; omega
            · have hgB : Gr wr w6 := (((Gr.refl wr).alloc _).trans hg4).trans hg5 |>.trans hg6
              go_roundw
              case rel => exact ⟨jj + 1, by omega, by go_num, hg.trans hgB, hPr.out.gr hgB, hXr.out.gr hgB, h0r.out.gr hgB, h1r.out.gr hgB⟩
              case measure => simp [RowKit.intOf]; omega
          · have q2 : decide ((jj : Int) < 2) = false := decide_eq_false (by omega)
            have hXr := Lib.hid hXr
            have h0r := Lib.hid h0r
            have h1r := Lib.hid h1r
            clear hPr
            go_wp2
            go_roundw
            case rel => exact ⟨kk + 1, by omega, by go_num, hg, hXr.out, h0r.out, h1r.out⟩
            case measure => simp [RowKit.intOf]; omega
      · have q1 : decide ((kk : Int) < 4) = false := decide_eq_false (by omega)
        obtain ⟨b1, b2, b3, b4, b5⟩ := h1r.two
        clear hXr h0r h1r
        go_wp2_with (first
          | (go_at_call 31; (with_reducible refine (HU.out _).mono ?_); rintro e w4 ⟨rfl, hg4⟩)
          | (go_at_call 17; (with_reducible refine (HW.out _ (hg.trans hg4)).mono ?_); rintro e w5 ⟨rfl, hg5⟩))
        go_ret
        exact ⟨rfl, (by repeat (first | with_reducible exact Gr.refl _ | with_reducible assumption | refine Gr.setCell ?_ (by first | omega | (simp; done) | (simp; omega)) _ | refine Gr.alloc ?_ _ | refine Gr.drew ?_ | refine Gr.drewN ?_ _ | refine Gr.trans ?_ (by with_reducible assumption)))⟩
end Go.Proofs.YtckmebfgianeoaaDoor
