/-
  Contract of (*carrier).note of package captions.
  Conditions: the carrier lies in memory; the caption's key has no index yet.
-/
import Derived.Test.YthadhmhbbfjomaaGreatDoorCarS
import Derived.Test.YthadhmhbbfjomaaGreatDoorReg6
import Derived.Deep.DeepCutAuto
namespace Go.Proofs.YthadhmhbbfjomaaGreatDoor
open Go.RowKit Go.Lib
set_option linter.unusedSimpArgs false
set_option linter.unusedVariables false

set_option maxRecDepth 20000 in
theorem MapO.look {w : World} {b n : Nat} {D : DataW Value} (h : MapO w b n D) {t e : TypeId} (ht : Tryz.prog.underlying t = some (.map 9 e)) {z u : Value} (hz : (zeroValue e).run Tryz.prog w = .ok z w)
    {s : ByteArray} (hs : s.size ≤ maxLen) (hat : D.atKey (.string s.data.toList) (.held z) = .held u) : (Instr.lookup t (.map (some b)) (.string s) false).run Tryz.prog w = .ok u w := by
  obtain ⟨vv, ps, hrun, hv⟩ := World.ownsMap.lookup h keyed_str ht hz (zd := .held z) (zp := []) rfl (MapO.key s hs)
  rw [hat] at hv
  unfold heldR at hv
  injection hv with hv
  injection hv with hv _
  injection hv with hv
  rw [hrun, hv]
theorem zeroI (w : World) : (zeroValue 22).run Tryz.prog w = .ok noI w := by
  simp [zeroValue, go_sem]
  rfl
theorem blk_new_at {w : World} {k : Nat} (hk : w.heap.size = k) (vs : List Value) (T : TypeId) : Blk (w.alloc (.cells vs.toArray T)) k T vs := by subst hk; exact Blk.new w vs T

set_option maxRecDepth 20000 in
set_option maxHeartbeats 4000000 in
theorem note_any {C b base n i : Nat} {v : Value} {c : List Cu} {D : DataW Value} {x : Cu} (w : World) (hC : CarC w C b base v c) (hi : c[i]? = some x) (hP : Pow w) (hM : MapO w b n D) (hn : n < maxLen) (ht : 0 ≤ x.t ∧ x.t < 1000) (hil : i < 1000)
    (hlate : D.atKey (kLit x.t x.ss) (.held noI) = .held noI) :
    Calls Tryz.prog 34 #[.pointer (some ⟨C, 0, none⟩), .int .i64 i] w fun e w' => e = .returned (.tuple #[]) ∧ ∃ g cap r, w.heap.size ≤ g ∧ CapOk cap ∧ Blk w' g 3 (.int .i64 i :: r) ∧ MapO w' b (n + 1) (D.put (kLit x.t x.ss) (.held (.slice (some ⟨g, 0, none⟩) 1 cap))) ∧ w.grownBy w' (some b) := by
  obtain ⟨hic, hix⟩ := List.getElem?_eq_some_iff.1 hi
  have hxl := hC.lns x (List.mem_of_getElem? hi)
  have hbl := hC.cel
  obtain ⟨hcR, hcS⟩ := hC.cues.read
  have hxs := hcS x (List.mem_of_getElem? hi)
  have hsh := CuesR.shape ⟨hcR, hcS⟩
  obtain ⟨a, vcap, rfl, h0 | ⟨gb, o, rfl, hgb, hcc⟩⟩ := hsh
  · omega
  obtain ⟨d0, d1, d2⟩ := hcc i hic
  rw [hix] at d0 d1 d2
  obtain ⟨la, lcap, hlv, -⟩ := hxs.shape
  rw [hlv] at d2
  have hfit : x.ss.length ≤ lcap := hxl.2.1 _ _ _ hlv
  have hsr := hxs
  rw [hlv] at hsr
  obtain ⟨K, hK⟩ : ∃ K : ByteArray, (⟨(keyL x.t (x.ss.map fun s => s.data.toList)).toArray⟩ : ByteArray) = K := ⟨_, rfl⟩
  have hKl : kLit x.t x.ss = Lit.string K.data.toList := by rw [← hK]; unfold kLit; simp
  have hKz : K.size ≤ maxLen := by
    rw [← hK]
    show (List.toArray _).size ≤ _
    have h1 := hxl.2.2.join
    have h2 := itoa_short20 ht.1 (by omega)
    unfold maxLen keyL
    simp at *
    omega
  have HK : Hid (∀ w', Gr w w' → Calls Tryz.prog 33 #[.int .i64 x.t, .slice la x.ss.length lcap] w' fun e w'' => e = .returned (.string K) ∧ Gr w' w'') := Lib.hid fun w' hg => by
    rw [← hK]
    exact key_any x.t la lcap x.ss w' (hP.gr hg) ht.1 ht.2 (hsr.gr hg) hfit hxl.2.2.l1 (by have := hxl.2.2.l4; omega) hxl.2.2.join
  rw [hKl] at hlate ⊢
  have HN : Hid (∀ w' bs c2, Gr w w' → Rd w' (.slice (some ⟨bs, 0, none⟩) 1 c2) 1 1 [.int .i64 (i : Int)] → Calls Tryz.prog 64 #[.slice none 0 0, .int .i64 0, .slice (some ⟨bs, 0, none⟩) 1 c2] w' fun x w'' => ∃ g cap r, x = .returned (.slice (some ⟨g, 0, none⟩) 1 cap) ∧ CapOk cap ∧ w'.heap.size ≤ g ∧ Blk w'' g 3 (.int .i64 (i : Int) :: r) ∧ Gr w' w'') := Lib.hid fun w' bs c2 _ hr => insert_nil bs c2 i w' hr
  have HB : Hid (∀ w' : World, Calls Tryz.prog 63 #[.slice none 0 0, .int .i64 (i : Int)] w' fun e w'' => e = .returned (.tuple #[.int .i64 0, .bool false]) ∧ w'' = w') := Lib.hid fun w' => Tryz.slices_BinarySearch_int_empty none 0 i w'
  have hCel := hbl.cel
  have hlo := hC.lo
  have hbl := Lib.hid hbl
  have hM := Lib.hid hM
  have hx0 := hCel.lt
  have hx1 := (hCel.2 0 _ rfl).1
  have hx2 := (hCel.2 1 _ rfl).1
  clear hC hi hxl hcR hcS hxs hcc hfit hsr hK hKl hlv hP hCel hix
  go_enter Tryz.func34, Tryz.ntmps34
  go_wp2
  refine wp_region_gr (by kernel_rfl) (by kernel_rfl) (fun hq1 hq2 => ?_)
  repeat (first | go_big_quiet_skip | (go_big_quiet_want; go_big_quiet_op; first | go_big_quiet_on | (apply Exists.intro; refine ⟨fun _ => ?_, ?_⟩; (· ((go_at_call 33; exact gr_call (HK.out _ (GW.h _))))); go_big_quiet_on)))
  refine wpQuiet_nil ?_
  clear hq1 hq2
  rintro w1 ⟨⟨_, hg1⟩, rfl⟩
  obtain ⟨hc1, hf1⟩ := hg1.cells
  have hz1 := hg1.size
  (try simp at hz1); (try have hl1_0_0 : w.heap.size < w1.heap.size := by omega); (try have hm1_0_0 : w.heap.size ≤ w1.heap.size := by omega); (try have hl1_0_1 : w.heap.size + 1 < w1.heap.size := by omega); (try have hl1_0_2 : w.heap.size + 2 < w1.heap.size := by omega)
  have hM1 := hM.out.gr hg1
  have hb1 := hbl.out.gr hg1
  have hlk := MapO.look hM1 Tryz.underlying63 (zeroI _) hKz hlate
  have y0 := hb1.lt
  have y1 := (hb1.cel.2 1 _ rfl).1
  replace hM1 := Lib.hid hM1
  replace hb1 := Lib.hid hb1
  go_upto_region 2 with ((go_at_call 63; (with_reducible refine (HB.out _).mono ?_); rintro e wy ⟨rfl, hwy⟩; subst wy))
  clear hlk y0 y1
  refine wp_region_still (Keep 13 (fun x => Blk x C 65 [.slice (some ⟨gb, o, none⟩) c.length vcap, .map (some b)] ∧ MapO x b n D)) 16 rfl (by kernel_rfl) ?_
  show stillAny _ _ _ _ _ _ #[false, false, false, false, false, false, false, false, false, false, false, false, false, false, false, false] _ _
  have hB : Blk w1.drew C 65 [.slice (some ⟨gb, o, none⟩) c.length vcap, .map (some b)] ∧ MapO w1.drew b n D := ⟨hb1.out.gr ((Gr.refl _).drew), hM1.out.gr ((Gr.refl _).drew)⟩
  have hg2 : Gr w w1.drew := hg1.drew
  generalize w1.drew = w2 at *
  refine still_pure 0 (v := .pointer (some ⟨C, 0, none⟩)) rfl (by kernel_rfl) (by kernel_rfl) (by kernel_rfl) (fun _ => hB) rfl (fun w hw => ?_) ?_
  · simp [execOp, go_sem] <;> (intros; omega)
  simp only [Act.put, List.setIfInBounds_toArray, List.set_cons_succ, List.set_cons_zero]
  refine still_pure 1 (v := .pointer (some ⟨C, 0, none⟩)) rfl (by kernel_rfl) (by kernel_rfl) (by kernel_rfl) (fun _ => hB) rfl (fun w hw => ?_) ?_
  · simp [execOp, go_sem] <;> (intros; omega)
  simp only [Act.put, List.setIfInBounds_toArray, List.set_cons_succ, List.set_cons_zero]
  refine still_pure 2 (v := .pointer (some ⟨C, 1, none⟩)) rfl (by kernel_rfl) (by kernel_rfl) (by kernel_rfl) (fun _ => hB) rfl (fun w hw => ?_) ?_
  · simp [execOp, go_sem] <;> (intros; omega)
  simp only [Act.put, List.setIfInBounds_toArray, List.set_cons_succ, List.set_cons_zero]
  refine still_pure 3 (v := .map (some b)) rfl (by kernel_rfl) (by kernel_rfl) (by kernel_rfl) (fun _ => hB) rfl (fun w hw => ?_) ?_
  · replace hw := hw (by decide)
    have hq0 := hw.1.lt
    have hq1 := (hw.1.cel.2 1 _ rfl).1
    (try simp at hq0 hq1)
    simp [execOp, go_sem, hq0, hq1]
  simp only [Act.put, List.setIfInBounds_toArray, List.set_cons_succ, List.set_cons_zero]
  refine still_pure 4 (v := .string K) rfl (by kernel_rfl) (by kernel_rfl) (by kernel_rfl) (fun _ => hB) rfl (fun w hw => ?_) ?_
  · simp [execOp, go_sem] <;> (intros; omega)
  simp only [Act.put, List.setIfInBounds_toArray, List.set_cons_succ, List.set_cons_zero]
  refine still_pure 5 (v := .pointer (some ⟨C, 0, none⟩)) rfl (by kernel_rfl) (by kernel_rfl) (by kernel_rfl) (fun _ => hB) rfl (fun w hw => ?_) ?_
  · simp [execOp, go_sem] <;> (intros; omega)
  simp only [Act.put, List.setIfInBounds_toArray, List.set_cons_succ, List.set_cons_zero]
  refine still_pure 6 (v := .pointer (some ⟨C, 0, none⟩)) rfl (by kernel_rfl) (by kernel_rfl) (by kernel_rfl) (fun _ => hB) rfl (fun w hw => ?_) ?_
  · simp [execOp, go_sem] <;> (intros; omega)
  simp only [Act.put, List.setIfInBounds_toArray, List.set_cons_succ, List.set_cons_zero]
  refine still_pure 7 (v := .pointer (some ⟨C, 1, none⟩)) rfl (by kernel_rfl) (by kernel_rfl) (by kernel_rfl) (fun _ => hB) rfl (fun w hw => ?_) ?_
  · simp [execOp, go_sem] <;> (intros; omega)
  simp only [Act.put, List.setIfInBounds_toArray, List.set_cons_succ, List.set_cons_zero]
  refine still_pure 8 (v := .map (some b)) rfl (by kernel_rfl) (by kernel_rfl) (by kernel_rfl) (fun _ => hB) rfl (fun w hw => ?_) ?_
  · replace hw := hw (by decide)
    have hq0 := hw.1.lt
    have hq1 := (hw.1.cel.2 1 _ rfl).1
    (try simp at hq0 hq1)
    simp [execOp, go_sem, hq0, hq1]
  simp only [Act.put, List.setIfInBounds_toArray, List.set_cons_succ, List.set_cons_zero]
  refine still_pure 9 (v := .string K) rfl (by kernel_rfl) (by kernel_rfl) (by kernel_rfl) (fun _ => hB) rfl (fun w hw => ?_) ?_
  · simp [execOp, go_sem] <;> (intros; omega)
  simp only [Act.put, List.setIfInBounds_toArray, List.set_cons_succ, List.set_cons_zero]
  refine still_pure 10 (v := noI) rfl (by kernel_rfl) (by kernel_rfl) (by kernel_rfl) (fun _ => hB) rfl (fun w hw => ?_) ?_
  · have hq := MapO.look (hw (by decide)).2 Tryz.underlying63 (zeroI _) hKz hlate
    simp [execOp, go_sem, hq]
  simp only [Act.put, List.setIfInBounds_toArray, List.set_cons_succ, List.set_cons_zero]
  refine still_pure 11 (v := .int .i64 0) rfl (by kernel_rfl) (by kernel_rfl) (by kernel_rfl) (fun _ => hB) rfl (fun w hw => ?_) ?_
  · simp [execOp, go_sem] <;> (intros; omega)
  simp only [Act.put, List.setIfInBounds_toArray, List.set_cons_succ, List.set_cons_zero]
  refine still_pure 12 (v := .int .i64 i) rfl (by kernel_rfl) (by kernel_rfl) (by kernel_rfl) (fun _ => hB) rfl (fun w hw => ?_) ?_
  · simp [execOp, go_sem] <;> (intros; omega)
  simp only [Act.put, List.setIfInBounds_toArray, List.set_cons_succ, List.set_cons_zero]
  refine still_next (j := 13) (by kernel_rfl) (by rfl) (fun R hR => ?_)
  (try simp only [List.getElem_toArray, List.getElem_cons_succ, List.getElem_cons_zero])
  go_wp2_with fail
  have hgA : Gr w2 (w2.alloc (.cells #[.int .i64 (i : Int)] 3)) := (Gr.refl _).alloc _
  have hRd := Rd.new w2 #[.int .i64 (i : Int)] 3 1 1 1 rfl
  refine only_normal (hR _ _ (Keep.step (fun h => ⟨h.1.gr hgA, h.2.gr hgA⟩)) ?_)
  clear hR R
  simp only [Act.put, List.setIfInBounds_toArray, List.set_cons_succ, List.set_cons_zero]
  refine still_next (j := 14) (by kernel_rfl) (by rfl) (fun R hR => ?_)
  (try simp only [List.getElem_toArray, List.getElem_cons_succ, List.getElem_cons_zero])
  go_wp2_with ((go_at_call 64; (with_reducible refine (HN.out _ _ _ ?_ ?_).mono ?_); (· exact hg2.trans hgA); (· exact hRd); rintro e w3 ⟨g, cap, r, rfl, hc1, hg1', hbg, hg3⟩))
  refine only_normal (hR _ _ (Keep.step (fun h => ⟨h.1.gr hg3, h.2.gr hg3⟩)) ?_)
  clear hR R
  simp only [Act.put, List.setIfInBounds_toArray, List.set_cons_succ, List.set_cons_zero]
  refine still_next (j := 15) (by kernel_rfl) (by rfl) (fun R hR => ?_)
  (try simp only [List.getElem_toArray, List.getElem_cons_succ, List.getElem_cons_zero])
  have hM3 : MapO w3 b n D := ((hB.2.gr hgA).gr hg3)
  go_wp2_with (at_mapUpdate; refine wpList_mapUpdate_own _ rfl _ _ _ 63 rfl 9 22 keyed_str Tryz.underlying63 heldR b n D rfl hM3 hn (.string K) (.slice (some ⟨g, 0, none⟩) 1 cap) (Lit.string K.data.toList) rfl rfl (MapO.key K hKz) (.held (.slice (some ⟨g, 0, none⟩) 1 cap)) [] rfl ?_; intro w4 hM4 hg4)
  refine only_normal (hR _ _ (Keep.last (by kernel_rfl)) ?_)
  clear hR R
  simp only [Act.put, List.setIfInBounds_toArray, List.set_cons_succ, List.set_cons_zero]
  refine still_done (by kernel_rfl) ?_
  (try simp only [List.getElem_toArray, List.getElem_cons_succ, List.getElem_cons_zero, List.set_cons_succ, List.set_cons_zero])
  go_end0
  have hgw : Gr w w3 := (hg2.trans hgA).trans hg3
  have hgb : g ≠ b := fun q => by
    subst q
    exact hM3.no hbg
  exact ⟨rfl, g, cap, r, Nat.le_trans (hg2.trans hgA).size hg1', hc1, hbg.grown hg4 (fun q => hgb (by injection q with q; exact q.symm)), hM4, ⟨hg4.os.trans hgw.os, hg4.tape.trans hgw.tape, hg4.output.trans hgw.output, Nat.le_trans hgw.size hg4.size, fun k hk hne => (hg4.block k (Nat.lt_of_lt_of_le hk hgw.size) hne).trans (Below.block hgw k hk)⟩⟩
end Go.Proofs.YthadhmhbbfjomaaGreatDoor
