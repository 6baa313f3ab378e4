/-
  Contract of (*carrier).add of package captions, where a caption is prolonged.
  Conditions: the carrier and the caption's lines lie in memory; the caption begins at or behind all ends.
-/
import Derived.Test.YthadhmhbbfjomaaGreatDoorCarW
namespace Go.Proofs.YthadhmhbbfjomaaGreatDoor
open Go.RowKit Go.Lib
set_option linter.unusedSimpArgs false
set_option linter.unusedVariables false

theorem delete_one (gi cap i : Nat) (r : List Value) (w : World) (hb : Blk w gi 3 (.int .i64 (i : Int) :: r)) (hc : CapOk cap) :
    Calls Tryz.prog 35 #[.slice (some ⟨gi, 0, none⟩) 1 cap, .int .i64 0, .int .i64 1] w fun e w' => e = .returned (.slice (some ⟨gi, 0, none⟩) 0 cap) ∧ w.grownBy w' (some gi) := by
  have h1 := hb.cel.2 0 _ rfl
  refine (Tryz.slices_Delete_int_cells gi 0 1 cap 0 1 [(i : Int)] w (by simp) hc.1 (by have := hc.2; unfold maxLen at this; omega) (by omega) (by omega) (fun j hj => ?_) (fun j hj => ?_)).mono fun e w' ⟨he, q, hw⟩ => ⟨by rw [he], ?_⟩
  · obtain rfl : j = 0 := by simpa using hj
    simpa using h1.1
  · obtain rfl : j = 0 := by omega
    simpa using h1.2
  · rw [hw]
    simp [World.setCells]
    have := grown_setCell (w.drewN q) ⟨gi, 0, none⟩ (.int .i64 0)
    exact ⟨this.os, this.tape, this.output, this.size, this.block⟩

set_option maxRecDepth 20000 in
set_option maxHeartbeats 4000000 in
theorem add_old {C b base i : Nat} {v : Value} {c : List Cu} {gs : List Nat} {D : DataW Value} {T : Int} {x y : Cu} (w0 w : World) (hP : Pow w0) (hg0w : Gr w0 w) (hb0w : w0.heap.size ≤ b) (h : CarS w C b base v c gs D T) (hs : StrsR w x.lv x.ss) (hf : FitS x.lv) (hv : Vs x.ss)
    (hT : T ≤ x.f) (hft : x.f < x.t) (ht : x.t < 1000) (hi : c[i]? = some y) (hyt : y.t = x.f) (hys : y.ss = x.ss) :
    Calls Tryz.prog 17 #[.pointer (some ⟨C, 0, none⟩), x.val] w fun e w' => e = .returned (.tuple #[]) ∧ ∃ gs' D', CarS w' C b base v (c.set i ⟨y.f, x.t, y.lv, y.ss⟩) gs' D' x.t ∧ Ex (Own C b v gs) w w' ∧ ∀ k, k < w.heap.size → Own C b v gs' k → Own C b v gs k := by
  obtain ⟨la, lcap, hlv, -⟩ := hs.shape
  obtain ⟨xf, xt, lv, ss⟩ := x
  simp only at *
  subst hlv
  have hfit : ss.length ≤ lcap := hf _ _ _ rfl
  have hpos := h.pos
  obtain ⟨hic, hix⟩ := List.getElem?_eq_some_iff.1 hi
  obtain ⟨vg, vcap, hvv, -, -⟩ := World.ownsRow.form h.cc.cues.own (by omega)
  have hgl : i < gs.length := by have := h.e.len; rw [List.length_map] at this; omega
  obtain ⟨gi, hgi⟩ : ∃ gi, gs[i]? = some gi := ⟨_, List.getElem?_eq_getElem hgl⟩
  obtain ⟨hbg, cpi, ri, hcap, hat, hbi⟩ := h.e.has i (cAbs y) gi (by rw [List.getElem?_map, hi]; rfl) hgi
  have hgim := List.mem_of_getElem? hgi
  obtain ⟨n0, hn0, hm0⟩ := h.m
  obtain ⟨K, hK⟩ : ∃ K : ByteArray, (⟨(keyL xf (ss.map fun s => s.data.toList)).toArray⟩ : ByteArray) = K := ⟨_, rfl⟩
  have hKl : kLit xf ss = Lit.string K.data.toList := by rw [← hK]; unfold kLit; simp
  have hKz : K.size ≤ maxLen := by
    rw [← hK]
    show (List.toArray _).size ≤ _
    have h1 := hv.join
    have h2 := itoa_short20 (n := xf) (by omega) (by omega)
    unfold maxLen keyL
    simp at *
    omega
  have hky : kLit y.t y.ss = Lit.string K.data.toList := by rw [hyt, hys, hKl]
  have hat : D.atKey (Lit.string K.data.toList) (.held noI) = .held (.slice (some ⟨gi, 0, none⟩) 1 cpi) := by rw [← hky]; exact hat
  have HK : Hid (∀ w', Gr w w' → Calls Tryz.prog 33 #[.int .i64 xf, .slice la ss.length lcap] w' fun e w'' => e = .returned (.string K) ∧ Gr w' w'') := Lib.hid fun w' hg => by
    rw [← hK]
    exact key_any xf la lcap ss w' ((hP.gr hg0w).gr hg) (by omega) (by omega) (hs.gr hg) hfit hv.l1 (by have := hv.l4; omega) hv.join
  have hclen := h.len
  have hg0 : Gr w (w.alloc (.cells #[.int .i64 xf, .int .i64 xt, .slice la ss.length lcap] 57)) := (Gr.refl w).alloc _
  have hb0 := Blk.new w [.int .i64 xf, .int .i64 xt, .slice la ss.length lcap] 57
  replace hix := Lib.hid hix
  replace hyt := Lib.hid hyt
  replace hys := Lib.hid hys
  replace hi := Lib.hid hi
  replace hgi := Lib.hid hgi
  replace hky := Lib.hid hky
  clear hK hKl
  show Calls Tryz.prog 17 #[.pointer (some ⟨C, 0, none⟩), .agg #[.int .i64 xf, .int .i64 xt, .slice la ss.length lcap]] w _
  go_enter Tryz.func17, Tryz.ntmps17
  go_upto_region 1 with fail
  obtain ⟨B, hB⟩ : ∃ B, w.heap.size = B := ⟨_, rfl⟩
  rw [hB] at hb0 ⊢
  generalize w.alloc (.cells #[.int .i64 xf, .int .i64 xt, .slice la ss.length lcap] 57) = W0 at *
  have q0 := hb0.lt
  have q1 := (hb0.cel.2 0 _ rfl).1
  have q2 := (hb0.cel.2 1 _ rfl).1
  have q3 := (hb0.cel.2 2 _ rfl).1
  replace hb0 := Lib.hid hb0
  have hbC := h.cc.cel
  rw [hvv] at hbC
  have hbC := Lib.hid hbC
  have hm0 := Lib.hid hm0
  have hat := Lib.hid hat
  have hB := Lib.hid hB
  have hbi := Lib.hid hbi
  go_upto_region 2 with ((go_at_call 33; (with_reducible refine (HK.out _ hg0).mono ?_); rintro e w1 ⟨rfl, hg1⟩))
  have hgw1 := hg0.trans hg1
  have hlk := MapO.look (hm0.out.gr hgw1) Tryz.underlying63 (zeroI _) hKz hat.out
  have hc1 := hbC.out.gr hgw1
  have hbi1 := hbi.out.gr hgw1
  have y0 := hc1.lt
  have y1 := (hc1.cel.2 1 _ rfl).1
  have y2 := hbi1.lt
  have y3 := (hbi1.cel.2 0 _ rfl).1
  have hcp1 := hcap.1
  replace hc1 := Lib.hid hc1
  replace hbi1 := Lib.hid hbi1
  clear q0 q1 q2 q3
  go_upto_region 7 with fail
  clear hlk y0 y1 y2 y3
  refine wp_region_still (Keep 6 (fun z => Blk z C 65 [.slice (some ⟨vg, 0, none⟩) c.length vcap, .map (some b)])) 8 rfl (by kernel_rfl) ?_
  show stillAny _ _ _ _ _ _ #[false, false, false, false, false, false, false, false] _ _
  have hJ : Blk w1.drew C 65 [.slice (some ⟨vg, 0, none⟩) c.length vcap, .map (some b)] := hc1.out.gr ((Gr.refl _).drew)
  have hg2 : Gr w w1.drew := hgw1.drew
  have hbB := hb0.out.gr (hg1.drew)
  generalize w1.drew = w2 at *
  have h2 := h.gr hg2
  have hbi2 := hbi.out.gr hg2
  have hgiC : gi ≠ C := fun q => by have := h.cc.lo; omega
  have hgib : gi ≠ b := fun q => by have := h.cc.lo; omega
  refine still_pure 0 (v := .pointer (some ⟨C, 0, none⟩)) rfl (by kernel_rfl) (by kernel_rfl) (by kernel_rfl) (fun _ => hJ) rfl (fun w hw => ?_) ?_
  · simp [execOp, go_sem] <;> (intros; omega)
  simp only [Act.put, List.setIfInBounds_toArray, List.set_cons_succ, List.set_cons_zero]
  refine still_pure 1 (v := .pointer (some ⟨C, 0, none⟩)) rfl (by kernel_rfl) (by kernel_rfl) (by kernel_rfl) (fun _ => hJ) rfl (fun w hw => ?_) ?_
  · simp [execOp, go_sem] <;> (intros; omega)
  simp only [Act.put, List.setIfInBounds_toArray, List.set_cons_succ, List.set_cons_zero]
  refine still_pure 2 (v := .pointer (some ⟨C, 1, none⟩)) rfl (by kernel_rfl) (by kernel_rfl) (by kernel_rfl) (fun _ => hJ) rfl (fun w hw => ?_) ?_
  · simp [execOp, go_sem] <;> (intros; omega)
  simp only [Act.put, List.setIfInBounds_toArray, List.set_cons_succ, List.set_cons_zero]
  refine still_pure 3 (v := .map (some b)) rfl (by kernel_rfl) (by kernel_rfl) (by kernel_rfl) (fun _ => hJ) rfl (fun w hw => ?_) ?_
  · replace hw := hw (by decide)
    have hq0 := hw.lt
    have hq1 := (hw.cel.2 1 _ rfl).1
    (try simp at hq0 hq1)
    simp [execOp, go_sem, hq0, hq1]
  simp only [Act.put, List.setIfInBounds_toArray, List.set_cons_succ, List.set_cons_zero]
  refine still_pure 4 (v := .string K) rfl (by kernel_rfl) (by kernel_rfl) (by kernel_rfl) (fun _ => hJ) rfl (fun w hw => ?_) ?_
  · simp [execOp, go_sem] <;> (intros; omega)
  simp only [Act.put, List.setIfInBounds_toArray, List.set_cons_succ, List.set_cons_zero]
  refine still_pure 5 (v := .slice (some ⟨gi, 0, none⟩) 1 cpi) rfl (by kernel_rfl) (by kernel_rfl) (by kernel_rfl) (fun _ => hJ) rfl (fun w hw => ?_) ?_
  · simp [execOp, go_sem] <;> (intros; omega)
  simp only [Act.put, List.setIfInBounds_toArray, List.set_cons_succ, List.set_cons_zero]
  refine still_next (j := 6) (by kernel_rfl) (by rfl) (fun R hR => ?_)
  (try simp only [List.getElem_toArray, List.getElem_cons_succ, List.getElem_cons_zero])
  go_wp2_with ((go_at_call 35; (with_reducible refine (delete_one gi cpi i ri _ hbi2 hcap).mono ?_); rintro e w3 ⟨rfl, hgD⟩))
  refine only_normal (hR _ _ (Keep.step (fun h => h.grown hgD (fun q => hgiC (by injection q)))) ?_)
  clear hR R
  simp only [Act.put, List.setIfInBounds_toArray, List.set_cons_succ, List.set_cons_zero]
  refine still_next (j := 7) (by kernel_rfl) (by rfl) (fun R hR => ?_)
  (try simp only [List.getElem_toArray, List.getElem_cons_succ, List.getElem_cons_zero])
  have hM3 : MapO w3 b n0 D := (hm0.out.gr hg2).grown hgD (fun q => hgib (by injection q))
  go_wp2_with (at_mapUpdate; refine wpList_mapUpdate_own _ rfl _ _ _ 63 rfl 9 22 keyed_str Tryz.underlying63 heldR b n0 D rfl hM3 (by unfold maxLen; omega) (.string K) (.slice (some ⟨gi, 0, none⟩) 0 cpi) (Lit.string K.data.toList) rfl rfl (MapO.key K hKz) (.held (.slice (some ⟨gi, 0, none⟩) 0 cpi)) [] rfl ?_; intro w4 hM4 hg4)
  refine only_normal (hR _ _ (Keep.last (by kernel_rfl)) ?_)
  clear hR R
  simp only [Act.put, List.setIfInBounds_toArray, List.set_cons_succ, List.set_cons_zero]
  refine still_done (by kernel_rfl) ?_
  (try simp only [List.getElem_toArray, List.getElem_cons_succ, List.getElem_cons_zero, List.set_cons_succ, List.set_cons_zero])
  have hMm4 : MapO w4 b (n0 + 1) (D.put (Lit.string K.data.toList) (.held (.slice (some ⟨gi, 0, none⟩) 0 cpi))) := hM4
  obtain ⟨hC4, hk4, -, hX4⟩ := CarS.midB h2 hgim hgD hg4
  have hsz := h.m.choose_spec.2.lt
  have hbB4 : Blk w4 B 57 [.int .i64 xf, .int .i64 xt, .slice la ss.length lcap] := by
    refine (hbB.grown hgD (fun q => ?_)).grown hg4 (fun q => ?_)
    · have e1 : gi = B := by injection q
      have e2 := hbi.out.lt
      have := hB.out
      omega
    · have e1 : b = B := by injection q
      have := hB.out
      omega
  have hs4 : w2.heap.size ≤ w4.heap.size := Nat.le_trans hgD.size hg4.size
  clear hM4 hgD hM3 hbB hbi2
  go_upto_region 8 with fail
  refine wp_region_still (Keep 7 (fun z => Blk z C 65 [.slice (some ⟨vg, 0, none⟩) c.length vcap, .map (some b)] ∧ Blk z B 57 [.int .i64 xf, .int .i64 xt, .slice la ss.length lcap])) 10 rfl (by kernel_rfl) ?_
  show stillAny _ _ _ _ _ _ #[false, false, false, false, false, false, false, false, false, false] _ _
  have hgd : Gr w4 w4.drew := (Gr.refl _).drew
  have hC5 := hC4.gr hgd
  have hJ5 : Blk w4.drew C 65 [.slice (some ⟨vg, 0, none⟩) c.length vcap, .map (some b)] ∧ Blk w4.drew B 57 [.int .i64 xf, .int .i64 xt, .slice la ss.length lcap] := ⟨by have := hC5.cel; rw [hvv] at this; exact this, hbB4.gr hgd⟩
  have hM5 := hMm4.gr hgd
  have hk5 : ∀ g, g ∈ gs → g ≠ gi → ∀ T vs, Blk w2 g T vs → Blk w4.drew g T vs := fun g h1 h2' T vs h3 => (hk4 g h1 h2' T vs h3).gr hgd
  have hX5 : Ex (Own C b v gs) w2 w4.drew := hX4.trans (Gr.ex hgd (O := Own C b v gs)) (fun _ _ q => q)
  have hs5 : w2.heap.size ≤ w4.drew.heap.size := hs4
  clear hC4 hbB4 hMm4 hk4 hX4 hs4
  generalize w4.drew = w5 at *
  refine still_pure 0 (v := .pointer (some ⟨C, 0, none⟩)) rfl (by kernel_rfl) (by kernel_rfl) (by kernel_rfl) (fun _ => hJ5) rfl (fun w hw => ?_) ?_
  · simp [execOp, go_sem] <;> (intros; omega)
  simp only [Act.put, List.setIfInBounds_toArray, List.set_cons_succ, List.set_cons_zero]
  refine still_pure 1 (v := .pointer (some ⟨C, 0, none⟩)) rfl (by kernel_rfl) (by kernel_rfl) (by kernel_rfl) (fun _ => hJ5) rfl (fun w hw => ?_) ?_
  · simp [execOp, go_sem] <;> (intros; omega)
  simp only [Act.put, List.setIfInBounds_toArray, List.set_cons_succ, List.set_cons_zero]
  refine still_pure 2 (v := .pointer (some ⟨C, 0, none⟩)) rfl (by kernel_rfl) (by kernel_rfl) (by kernel_rfl) (fun _ => hJ5) rfl (fun w hw => ?_) ?_
  · simp [execOp, go_sem] <;> (intros; omega)
  simp only [Act.put, List.setIfInBounds_toArray, List.set_cons_succ, List.set_cons_zero]
  refine still_pure 3 (v := .slice (some ⟨vg, 0, none⟩) c.length vcap) rfl (by kernel_rfl) (by kernel_rfl) (by kernel_rfl) (fun _ => hJ5) rfl (fun w hw => ?_) ?_
  · replace hw := hw (by decide)
    have hq0 := hw.1.lt
    have hq1 := (hw.1.cel.2 0 _ rfl).1
    (try simp at hq0 hq1)
    simp [execOp, go_sem, hq0, hq1]
  simp only [Act.put, List.setIfInBounds_toArray, List.set_cons_succ, List.set_cons_zero]
  refine still_pure 4 (v := .int .i64 i) rfl (by kernel_rfl) (by kernel_rfl) (by kernel_rfl) (fun _ => hJ5) rfl (fun w hw => ?_) ?_
  · simp [execOp, go_sem] <;> (intros; omega)
  simp only [Act.put, List.setIfInBounds_toArray, List.set_cons_succ, List.set_cons_zero]
  refine still_pure 5 (v := .pointer (some ⟨B, 1, none⟩)) rfl (by kernel_rfl) (by kernel_rfl) (by kernel_rfl) (fun _ => hJ5) rfl (fun w hw => ?_) ?_
  · simp [execOp, go_sem] <;> (intros; omega)
  simp only [Act.put, List.setIfInBounds_toArray, List.set_cons_succ, List.set_cons_zero]
  refine still_pure 6 (v := .int .i64 xt) rfl (by kernel_rfl) (by kernel_rfl) (by kernel_rfl) (fun _ => hJ5) rfl (fun w hw => ?_) ?_
  · replace hw := hw (by decide)
    have hq0 := hw.2.lt
    have hq1 := (hw.2.cel.2 1 _ rfl).1
    (try simp at hq0 hq1)
    simp [execOp, go_sem, hq0, hq1]
  simp only [Act.put, List.setIfInBounds_toArray, List.set_cons_succ, List.set_cons_zero]
  refine still_next (j := 7) (by kernel_rfl) (by rfl) (fun R hR => ?_)
  (try simp only [List.getElem_toArray, List.getElem_cons_succ, List.getElem_cons_zero])
  go_wp2_with fail
  refine only_normal (hR _ _ (Keep.step (fun h => h)) ?_)
  clear hR R
  simp only [Act.put, List.setIfInBounds_toArray, List.set_cons_succ, List.set_cons_zero]
  refine still_next (j := 8) (by kernel_rfl) (by rfl) (fun R hR => ?_)
  (try simp only [List.getElem_toArray, List.getElem_cons_succ, List.getElem_cons_zero])
  go_wp2_with fail
  refine only_normal (hR _ _ (Keep.step (fun h => h)) ?_)
  clear hR R
  simp only [Act.put, List.setIfInBounds_toArray, List.set_cons_succ, List.set_cons_zero]
  refine still_next (j := 9) (by kernel_rfl) (by rfl) (fun R hR => ?_)
  (try simp only [List.getElem_toArray, List.getElem_cons_succ, List.getElem_cons_zero])
  rw [hvv] at hC5
  have c1 := World.ownsRow.cellAt hC5.cues.own (i * 3 + 1) (by omega)
  rw [(flat_at c i hic).2.1] at c1
  have c2 := World.ownsRow.frozenAt hC5.cues.own (i * 3 + 1)
  have c3 := (own_base hC5.cues.own (k := vg) rfl).2.1
  go_wp2_with fail
  refine only_normal (hR _ _ (Keep.last (by kernel_rfl)) ?_)
  clear hR R
  simp only [Act.put, List.setIfInBounds_toArray, List.set_cons_succ, List.set_cons_zero]
  refine still_done (by kernel_rfl) ?_
  (try simp only [List.getElem_toArray, List.getElem_cons_succ, List.getElem_cons_zero, List.set_cons_succ, List.set_cons_zero])
  clear c1 c2 c3
  obtain ⟨hC6, hg6⟩ := CarC.to hic xt hC5
  rw [hix.out] at hC6
  have hvgb : vg ≠ b := fun q => by
    have := (own_base hC5.cues.own (k := vg) rfl).1
    have := h.cc.lo
    omega
  have hM6 := hM5.other (p := ⟨vg, i * 3 + 1, none⟩) hvgb (.int .i64 xt)
  have hk6 : ∀ g, g ∈ gs → g ≠ gi → ∀ T vs, Blk w2 g T vs → Blk (w5.setCell ⟨vg, i * 3 + 1, none⟩ (.int .i64 xt)) g T vs := fun g h1 h2' T vs h3 => (hk5 g h1 h2' T vs h3).grown hg6 (fun q => by
    have e1 : vg = g := by injection q
    subst e1
    obtain ⟨_, us, hu⟩ := h2.e.blk h1
    have hn := hk5 vg h1 h2' _ _ hu
    obtain ⟨_, _, cur, hcc⟩ := own_base hC5.cues.own (k := vg) rfl
    unfold Blk at hn
    rw [hcc] at hn
    injection hn with hn
    injection hn with _ hn _
    revert hn
    decide)
  have hX6 : Ex (Own C b v gs) w (w5.setCell ⟨vg, i * 3 + 1, none⟩ (.int .i64 xt)) := by
    refine ((Gr.ex hg2 (O := Own C b v gs)).trans hX5 (fun _ _ q => q)).trans (Ex.of (O := Own C b v gs) hg6 fun k hk => .inr (.inr (.inl ?_))) (fun _ _ q => q)
    rw [hvv]
    exact hk
  have hs6 : w.heap.size ≤ (w5.setCell ⟨vg, i * 3 + 1, none⟩ (.int .i64 xt)).heap.size := Nat.le_trans hg2.size (Nat.le_trans hs5 hg6.size)
  clear hC5 hM5 hk5 hX5 hs5 hJ5 hg6
  generalize w5.setCell ⟨vg, i * 3 + 1, none⟩ (.int .i64 xt) = w6 at *
  have hg06 : Gr w0 w6 := hX6.gr hg0w (fun k hk hO => by have := Own.ge h hO; omega)
  have hP6 : Pow w6 := hP.gr hg06
  have hyv : Vs y.ss := by rw [hys.out]; exact hv
  have hkk : KeyOk xt y.ss := hyv.key (by omega) ht
  have hlate : (D.put (Lit.string K.data.toList) (.held (.slice (some ⟨gi, 0, none⟩) 0 cpi))).atKey (kLit xt y.ss) (.held noI) = .held noI := by
    rw [Maps.atKey_put_other (fun q => ?_)]
    · exact h.e.late xt y.ss hkk (fun z hz => by
        obtain ⟨u, hu, rfl⟩ := List.mem_map.1 hz
        have := h.top u hu
        show u.t < xt
        omega)
    · rw [← hky.out] at q
      have := (kLit_inj hkk (hyv.key (e := y.t) (by rw [hyt.out]; omega) (by rw [hyt.out]; omega)) q).1
      have := hyt.out
      omega
  have z0 := hC6.cel.lt
  have hcl : i < 1000 := by omega
  replace hC6 := Lib.hid hC6
  have hset : (c.set i ⟨y.f, xt, y.lv, y.ss⟩)[i]? = some ⟨y.f, xt, y.lv, y.ss⟩ := List.getElem?_set_self hic
  replace hset := Lib.hid hset
  go_wp2_with ((go_at_call 34; (refine (note_any (i := i) (x := ⟨y.f, xt, y.lv, y.ss⟩) w6 hC6.out hset.out hP6 hM6 (by unfold maxLen; omega) ⟨by simp only; omega, ht⟩ hcl hlate).mono ?_); rintro e w7 ⟨rfl, gI, cI, r, k1, k2, k3, k4, k5⟩))
  refine bodyPost_end (results_none rfl _ _ _) rfl ?_
  have hlo := h.cc.lo
  rw [← hvv] at hC6
  have hk6' : ∀ j g, j ≠ i → gs[j]? = some g → ∀ T vs, Blk w g T vs → Blk w6 g T vs := fun j g hj hg T vs hb => by
    refine hk6 g (List.mem_of_getElem? hg) (fun q => hj ?_) T vs (hb.gr hg2)
    rw [q] at hg
    exact h.e.nd j i gi hg hgi.out
  have hres := CarS.endB (t := xt) h hi.out (by omega) ht hC6.out hk6' hn0 (by rw [hky.out]; exact hM6) k5 k3 k1 k2 (by rw [hky.out]; exact k4) hs6
  refine ⟨rfl, gs.set i gI, _, hres, hX6.trans (Ex.of (O := Own C b v gs) k5 fun k hk => .inr (.inl (by injection hk with hk; exact hk.symm))) (fun _ _ q => q), fun k hk hO => ?_⟩
  rcases hO with hO | hO | hO | hO
  · exact .inl hO
  · exact .inr (.inl hO)
  · exact .inr (.inr (.inl hO))
  · rcases List.mem_or_eq_of_mem_set hO with hO | hO
    · exact .inr (.inr (.inr hO))
    · omega
end Go.Proofs.YthadhmhbbfjomaaGreatDoor
