/-
  Contract of (*carrier).add of package captions, where the caption is appended.
  Conditions: the carrier and the caption's lines lie in memory; the caption begins at or behind all ends.
-/
import Derived.Test.YthadhmhbbfjomaaGreatDoorCarT
import Derived.Deep.AppendLies
namespace Go.Proofs.YthadhmhbbfjomaaGreatDoor
open Go.RowKit Go.Lib
set_option linter.unusedSimpArgs false
set_option linter.unusedVariables false

set_option maxRecDepth 20000 in
set_option maxHeartbeats 4000000 in
theorem add_new {C b base : Nat} {v : Value} {c : List Cu} {gs : List Nat} {D : DataW Value} {T : Int} {x : Cu} (w0 w : World) (hP : Pow w0) (hg0w : Gr w0 w) (hb0w : w0.heap.size ≤ b) (h : CarS w C b base v c gs D T) (hs : StrsR w x.lv x.ss) (hl : LnT w x.lv) (hf : FitS x.lv) (hv : Vs x.ss)
    (hT : T ≤ x.f) (hft : x.f < x.t) (ht : x.t < 1000) (hno : ∀ y ∈ c, ¬ (y.t = x.f ∧ y.ss = x.ss)) :
    Calls Tryz.prog 17 #[.pointer (some ⟨C, 0, none⟩), x.val] w fun e w' => e = .returned (.tuple #[]) ∧ ∃ v' gs' D', CarS w' C b base v' (c ++ [x]) gs' D' x.t ∧ Ex (Own C b v gs) w w' ∧ ∀ k, k < w.heap.size → Own C b v' gs' k → Own C b v gs k := by
  obtain ⟨la, lcap, hlv, -⟩ := hs.shape
  obtain ⟨xf, xt, lv, ss⟩ := x
  simp only at *
  subst hlv
  have hfit : ss.length ≤ lcap := hf _ _ _ rfl
  have hpos := h.pos
  obtain ⟨vp, vcap, hvv⟩ := own_shape h.cc.cues.own
  obtain ⟨a0, cap0, hat⟩ := h.e.no xf ss (hv.key (by omega) (by omega)) (fun y hy q => by
    obtain ⟨z, hz, rfl⟩ := List.mem_map.1 hy
    exact hno z hz q)
  obtain ⟨n0, hn0, hm0⟩ := h.m
  obtain ⟨K, hK⟩ : ∃ K : ByteArray, (⟨(keyL xf (ss.map fun s => s.data.toList)).toArray⟩ : ByteArray) = K := ⟨_, rfl⟩
  have hKl : kLit xf ss = Lit.string K.data.toList := by rw [← hK]; unfold kLit; simp
  have hKz : K.size ≤ maxLen := by
    rw [← hK]
    show (List.toArray _).size ≤ _
    have h1 := hv.join
    have h2 := itoa_short20 (n := xf) (by omega) (by omega)
    unfold maxLen keyL
    simp at *
    omega
  rw [hKl] at hat
  have HK : Hid (∀ w', Gr w w' → Calls Tryz.prog 33 #[.int .i64 xf, .slice la ss.length lcap] w' fun e w'' => e = .returned (.string K) ∧ Gr w' w'') := Lib.hid fun w' hg => by
    rw [← hK]
    exact key_any xf la lcap ss w' ((hP.gr hg0w).gr hg) (by omega) (by omega) (hs.gr hg) hfit hv.l1 (by have := hv.l4; omega) hv.join
  have hclen := h.len
  have hg0 : Gr w (w.alloc (.cells #[.int .i64 xf, .int .i64 xt, .slice la ss.length lcap] 57)) := (Gr.refl w).alloc _
  have hb0 := Blk.new w [.int .i64 xf, .int .i64 xt, .slice la ss.length lcap] 57
  replace hno := Lib.hid hno
  clear hK hKl
  show Calls Tryz.prog 17 #[.pointer (some ⟨C, 0, none⟩), .agg #[.int .i64 xf, .int .i64 xt, .slice la ss.length lcap]] w _
  go_enter Tryz.func17, Tryz.ntmps17
  go_upto_region 1 with fail
  obtain ⟨B, hB⟩ : ∃ B, w.heap.size = B := ⟨_, rfl⟩
  rw [hB] at hb0 ⊢
  generalize w.alloc (.cells #[.int .i64 xf, .int .i64 xt, .slice la ss.length lcap] 57) = W0 at *
  have q0 := hb0.lt
  have q1 := (hb0.cel.2 0 _ rfl).1
  have q2 := (hb0.cel.2 1 _ rfl).1
  have q3 := (hb0.cel.2 2 _ rfl).1
  replace hb0 := Lib.hid hb0
  have hbC := h.cc.cel
  rw [hvv] at hbC
  have hbC := Lib.hid hbC
  have hm0 := Lib.hid hm0
  have hat := Lib.hid hat
  have hB := Lib.hid hB
  go_upto_region 2 with ((go_at_call 33; (with_reducible refine (HK.out _ hg0).mono ?_); rintro e w1 ⟨rfl, hg1⟩))
  have hgw1 := hg0.trans hg1
  have hlk := MapO.look (hm0.out.gr hgw1) Tryz.underlying63 (zeroI _) hKz hat.out
  have hc1 := hbC.out.gr hgw1
  have y0 := hc1.lt
  have y1 := (hc1.cel.2 1 _ rfl).1
  replace hc1 := Lib.hid hc1
  clear q0 q1 q2 q3
  go_upto_region 4 with fail
  clear hlk y0 y1
  have hvB : v.ownBlock ≠ some B := fun q => by
    have := (own_base h.cc.cues.own q).2.1
    have := hB.out
    omega
  have hvC : v.ownBlock ≠ some C := fun q => by
    have := (own_base h.cc.cues.own q).1
    have := h.cc.lo
    omega
  obtain ⟨ic, hic, hic0, hic1, hic2⟩ := info_parts infoCue
  refine wp_region_still (Keep 6 (fun z => Blk z C 65 [.slice vp c.length vcap, .map (some b)] ∧ Blk z B 57 [.int .i64 xf, .int .i64 xt, .slice la ss.length lcap])) 11 rfl (by kernel_rfl) ?_
  show stillAny _ _ _ _ _ _ #[false, false, false, false, false, false, false, false, false, false, false] _ _
  have hJ : Blk w1.drew C 65 [.slice vp c.length vcap, .map (some b)] ∧ Blk w1.drew B 57 [.int .i64 xf, .int .i64 xt, .slice la ss.length lcap] := ⟨hc1.out.gr ((Gr.refl _).drew), (hb0.out.gr hg1).gr ((Gr.refl _).drew)⟩
  have hg2 : Gr w w1.drew := hgw1.drew
  generalize w1.drew = w2 at *
  refine still_pure 0 (v := .pointer (some ⟨C, 0, none⟩)) rfl (by kernel_rfl) (by kernel_rfl) (by kernel_rfl) (fun _ => hJ) rfl (fun w hw => ?_) ?_
  · simp [execOp, go_sem] <;> (intros; omega)
  simp only [Act.put, List.setIfInBounds_toArray, List.set_cons_succ, List.set_cons_zero]
  refine still_pure 1 (v := .pointer (some ⟨C, 0, none⟩)) rfl (by kernel_rfl) (by kernel_rfl) (by kernel_rfl) (fun _ => hJ) rfl (fun w hw => ?_) ?_
  · simp [execOp, go_sem] <;> (intros; omega)
  simp only [Act.put, List.setIfInBounds_toArray, List.set_cons_succ, List.set_cons_zero]
  refine still_pure 2 (v := .pointer (some ⟨C, 0, none⟩)) rfl (by kernel_rfl) (by kernel_rfl) (by kernel_rfl) (fun _ => hJ) rfl (fun w hw => ?_) ?_
  · simp [execOp, go_sem] <;> (intros; omega)
  simp only [Act.put, List.setIfInBounds_toArray, List.set_cons_succ, List.set_cons_zero]
  refine still_pure 3 (v := .pointer (some ⟨C, 0, none⟩)) rfl (by kernel_rfl) (by kernel_rfl) (by kernel_rfl) (fun _ => hJ) rfl (fun w hw => ?_) ?_
  · simp [execOp, go_sem] <;> (intros; omega)
  simp only [Act.put, List.setIfInBounds_toArray, List.set_cons_succ, List.set_cons_zero]
  refine still_pure 4 (v := .slice vp c.length vcap) rfl (by kernel_rfl) (by kernel_rfl) (by kernel_rfl) (fun _ => hJ) rfl (fun w hw => ?_) ?_
  · replace hw := hw (by decide)
    have hq0 := hw.1.lt
    have hq1 := (hw.1.cel.2 0 _ rfl).1
    (try simp at hq0 hq1)
    simp [execOp, go_sem, hq0, hq1]
  simp only [Act.put, List.setIfInBounds_toArray, List.set_cons_succ, List.set_cons_zero]
  refine still_pure 5 (v := .agg #[.int .i64 xf, .int .i64 xt, .slice la ss.length lcap]) rfl (by kernel_rfl) (by kernel_rfl) (by kernel_rfl) (fun _ => hJ) rfl (fun w hw => ?_) ?_
  · replace hw := hw (by decide)
    have hq0 := hw.2.lt
    have hq1 := (hw.2.cel.2 0 _ rfl).1
    have hq2 := (hw.2.cel.2 1 _ rfl).1
    have hq3 := (hw.2.cel.2 2 _ rfl).1
    (try simp at hq0 hq1 hq2 hq3)
    simp [execOp, go_sem, hq0, hq1, hq2, hq3]
  simp only [Act.put, List.setIfInBounds_toArray, List.set_cons_succ, List.set_cons_zero]
  refine still_next (j := 6) (by kernel_rfl) (by rfl) (fun R hR => ?_)
  (try simp only [List.getElem_toArray, List.getElem_cons_succ, List.getElem_cons_zero])
  go_wp2_with fail
  have hgA : Gr w2 (w2.alloc (.cells #[.int .i64 xf, .int .i64 xt, .slice la ss.length lcap] 57)) := (Gr.refl _).alloc _
  have hRd := Blk.new w2 [.int .i64 xf, .int .i64 xt, .slice la ss.length lcap] 57
  refine only_normal (hR _ _ (Keep.step (fun h => ⟨h.1.gr hgA, h.2.gr hgA⟩)) ?_)
  clear hR R
  simp only [Act.put, List.setIfInBounds_toArray, List.set_cons_succ, List.set_cons_zero]
  have hJ3 : Blk (w2.alloc (.cells #[.int .i64 xf, .int .i64 xt, .slice la ss.length lcap] 57)) C 65 [.slice vp c.length vcap, .map (some b)] ∧ Blk (w2.alloc (.cells #[.int .i64 xf, .int .i64 xt, .slice la ss.length lcap] 57)) B 57 [.int .i64 xf, .int .i64 xt, .slice la ss.length lcap] := ⟨hJ.1.gr hgA, hJ.2.gr hgA⟩
  have hg3 := hg2.trans hgA
  obtain ⟨N, hN⟩ : ∃ N, w2.heap.size = N := ⟨_, rfl⟩
  rw [hN] at hRd ⊢
  have hN := Lib.hid hN
  generalize w2.alloc (.cells #[.int .i64 xf, .int .i64 xt, .slice la ss.length lcap] 57) = w3 at *
  have h3 := h.gr hg3
  refine still_next (j := 7) (by kernel_rfl) (by rfl) (fun R hR => ?_)
  (try simp only [List.getElem_toArray, List.getElem_cons_succ, List.getElem_cons_zero])
  go_wp2_with (at_builtin; refine wpList_append_lies _ rfl (.tmp 25) (.tmp 27) 24 rfl base 57 ic (.agg #[.int .i64 0, .int .i64 0, .slice none 0 0]) 3 40 (by kernel_rfl) hic hic0 hic1 hic2 rfl (by decide) _ _ _ hvv.symm h3.cc.cues.own ⟨N, 0, none⟩ 1 1 [.int .i64 xf, .int .i64 xt, .slice la ss.length lcap] rfl rfl ?_ ?_ ?_ ?_ ?_ ?_ _ rfl ?_; (· intro j u hu; have := (hRd.cel.2 j u hu).1; simpa [Addr.add_lit] using this); (· intro u hu; simp at hu; rcases hu with rfl | rfl | rfl <;> rfl); (· omega); (· unfold maxLen; omega); (· omega); (· exact h3.bs); intro g cap w4 hown4 hgrow4 hat4 hlt4)
  refine only_normal (hR _ _ (Keep.step (fun h => ⟨h.1.grown hgrow4 hvC, h.2.grown hgrow4 hvB⟩)) ?_)
  clear hR R
  simp only [Act.put, List.setIfInBounds_toArray, List.set_cons_succ, List.set_cons_zero]
  refine still_next (j := 8) (by kernel_rfl) (by rfl) (fun R hR => ?_)
  (try simp only [List.getElem_toArray, List.getElem_cons_succ, List.getElem_cons_zero])
  go_wp2_with fail
  refine only_normal (hR _ _ (Keep.step (fun h => h)) ?_)
  clear hR R
  simp only [Act.put, List.setIfInBounds_toArray, List.set_cons_succ, List.set_cons_zero]
  refine still_next (j := 9) (by kernel_rfl) (by rfl) (fun R hR => ?_)
  (try simp only [List.getElem_toArray, List.getElem_cons_succ, List.getElem_cons_zero])
  go_wp2_with fail
  refine only_normal (hR _ _ (Keep.step (fun h => h)) ?_)
  clear hR R
  simp only [Act.put, List.setIfInBounds_toArray, List.set_cons_succ, List.set_cons_zero]
  refine still_next (j := 10) (by kernel_rfl) (by rfl) (fun R hR => ?_)
  (try simp only [List.getElem_toArray, List.getElem_cons_succ, List.getElem_cons_zero])
  have hJ4 := hJ3.1.grown hgrow4 hvC
  have z0 := hJ4.lt
  have z1 := (hJ4.cel.2 0 _ rfl).1
  have z2 := (hJ4.cel.2 0 _ rfl).2
  go_wp2_with fail
  refine only_normal (hR _ _ (Keep.last (by kernel_rfl)) ?_)
  clear hR R
  simp only [Act.put, List.setIfInBounds_toArray, List.set_cons_succ, List.set_cons_zero]
  refine still_done (by kernel_rfl) ?_
  (try simp only [List.getElem_toArray, List.getElem_cons_succ, List.getElem_cons_zero, List.set_cons_succ, List.set_cons_zero])
  clear z0 z1 z2
  obtain ⟨hC4, ⟨n4, hn4, hM4⟩, hE4, hX4⟩ := CarS.midA (x := ⟨xf, xt, .slice la ss.length lcap, ss⟩) h hg3 (hs.gr hg3) (hl.gr hg3) hf hv hown4 hgrow4
  have hs4 : w3.heap.size ≤ (w4.setCell ⟨C, 0, none⟩ (.slice (some ⟨g, 0, none⟩) (c.length + 1) cap)).heap.size := by
    have := hgrow4.size
    simpa [World.setCell] using this
  generalize w4.setCell ⟨C, 0, none⟩ (.slice (some ⟨g, 0, none⟩) (c.length + 1) cap) = w5 at *
  have hg05 : Gr w0 w5 := hX4.gr hg0w (fun k hk hO => by have := Own.ge h hO; omega)
  have hP5 : Pow w5 := hP.gr hg05
  have hlate := h.e.late xt ss (hv.key (by omega) ht) (fun y hy => by
    obtain ⟨z, hz, rfl⟩ := List.mem_map.1 hy
    have := h.top z hz
    show z.t < xt
    omega)
  have z0 := hC4.cel.lt
  have z1 := (hC4.cel.cel.2 0 _ rfl).1
  replace hC4 := Lib.hid hC4
  have hcl : c.length < 1000 := by omega
  go_wp2_with ((go_at_call 34; (refine (note_any (i := c.length) (x := ⟨xf, xt, .slice la ss.length lcap, ss⟩) w5 hC4.out (by simp) hP5 hM4 (by unfold maxLen; omega) ⟨by simp only; omega, ht⟩ hcl hlate).mono ?_); rintro e w6 ⟨rfl, gI, cI, r, k1, k2, k3, k4, k5⟩))
  refine bodyPost_ret (results_none rfl _ _ _) rfl ?_
  have hlo := h.cc.lo
  refine ⟨rfl, .slice (some ⟨g, 0, none⟩) (c.length + 1) cap, gs ++ [gI], _, CarS.endA (x := ⟨xf, xt, .slice la ss.length lcap, ss⟩) h hv hT hft ht hC4.out hn4 hM4 hE4 k5 k3 k1 k2 k4 (Nat.le_trans h3.bs hs4), ?_, fun k hk hO => ?_⟩
  · exact hX4.trans (Ex.of (O := Own C b v gs) k5 fun k hk => .inr (.inl (by injection hk with hk; exact hk.symm))) (fun _ _ q => q)
  · have hw3 := hg3.size
    rcases hO with hO | hO | hO | hO
    · exact .inl hO
    · exact .inr (.inl hO)
    · have hgk : g = k := by simpa [Value.ownBlock] using hO
      subst hgk
      rcases hat4 with q | q
      · exact .inr (.inr (.inl q))
      · omega
    · rcases List.mem_append.1 hO with hO | hO
      · exact .inr (.inr (.inr hO))
      · rw [List.mem_singleton] at hO
        omega
end Go.Proofs.YthadhmhbbfjomaaGreatDoor
