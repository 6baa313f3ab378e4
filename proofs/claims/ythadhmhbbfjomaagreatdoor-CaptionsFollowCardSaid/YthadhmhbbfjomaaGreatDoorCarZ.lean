/-
  Contract of Carry of package captions at a project of one medium.
  Conditions: the medium's captions lie in memory, are valid and in order; the runs are in order and end ahead of frame 1000.
-/
import Derived.Test.YthadhmhbbfjomaaGreatDoorCarY
import Derived.Test.YthadhmhbbfjomaaGreatDoorWalkMe
import Derived.Test.YthadhmhbbfjomaaGreatDoorMathFw
namespace Go.Proofs.YthadhmhbbfjomaaGreatDoor
open Go.RowKit Go.Lib
set_option linter.unusedSimpArgs false
set_option linter.unusedVariables false

def rcells (nm : ByteArray) (r : Rn) : List Value := [.string nm, .int .i64 r.film, .int .i64 r.frm, .int .i64 r.len]
def rflat (nm : ByteArray) (rs : List Rn) : List Value := rs.flatMap (rcells nm)
theorem rflat_len (nm : ByteArray) (rs : List Rn) : (rflat nm rs).length = rs.length * 4 := by
  induction rs with
  | nil => rfl
  | cons r rs ih =>
    rw [show rflat nm (r :: rs) = rcells nm r ++ rflat nm rs from rfl, List.length_append, ih]
    simp [rcells]
    omega
theorem rflat_at (nm : ByteArray) : ∀ (rs : List Rn) (i : Nat) (r : Rn), rs[i]? = some r → ∀ (j : Nat) u, (rcells nm r)[j]? = some u → (rflat nm rs)[i * 4 + j]? = some u
  | [], i, r, h, _, _, _ => by simp at h
  | q :: rs, 0, r, h, j, u, hu => by
    simp at h
    subst h
    rw [show rflat nm (q :: rs) = rcells nm q ++ rflat nm rs from rfl, Nat.zero_mul, Nat.zero_add, List.getElem?_append_left (List.getElem?_eq_some_iff.1 hu).1]
    exact hu
  | q :: rs, i + 1, r, h, j, u, hu => by
    have := rflat_at nm rs i r (by simpa using h) j u hu
    rw [show rflat nm (q :: rs) = rcells nm q ++ rflat nm rs from rfl, List.getElem?_append_right (by simp [rcells]; omega), show (i + 1) * 4 + j - (rcells nm q).length = i * 4 + j by simp [rcells]; omega]
    exact this
theorem RunsOk.mem : ∀ {rs : List Rn} {T : Int}, RunsOk T rs → ∀ r ∈ rs, 0 ≤ r.film ∧ 0 ≤ r.frm ∧ 1 ≤ r.len ∧ r.film + r.len ≤ 2147483647 ∧ r.frm + r.len ≤ 2147483647
  | [], _, _, r, hr => by cases hr
  | q :: rs, T, ⟨h1, h2, h3, h4, h5, h6, h7⟩, r, hr => by
    rcases List.mem_cons.1 hr with rfl | hr
    · exact ⟨h2, h3, h4, h5, h6⟩
    · exact h7.mem r hr
theorem RunsOk.at : ∀ {rs : List Rn} {T : Int} {k : Nat} {r : Rn}, RunsOk T rs → rs[k]? = some r → endR T (rs.take k) ≤ r.film
  | [], _, _, _, _, h => by simp at h
  | q :: rs, T, 0, r, ⟨h1, _⟩, h => by
    simp at h
    subst h
    exact h1
  | q :: rs, T, k + 1, r, ⟨h1, h2, h3, h4, h5, h6, h7⟩, h => by
    have := RunsOk.at (k := k) h7 (by simpa using h)
    exact this
set_option maxRecDepth 20000 in
theorem MapO.has {w : World} {b n : Nat} {D : DataW Value} (h : MapO w b n D) {t e : TypeId} (ht : Tryz.prog.underlying t = some (.map 9 e)) {z u : Value} (hz : (zeroValue e).run Tryz.prog w = .ok z w)
    {s : ByteArray} (hs : s.size ≤ maxLen) (hat : D.atKey (.string s.data.toList) (.held z) = .held u) (hh : Maps.has D (.string s.data.toList) = true) : (Instr.lookup t (.map (some b)) (.string s) true).run Tryz.prog w = .ok (.tuple #[u, .bool true]) w := by
  obtain ⟨vv, ps, hrun, hv⟩ := World.ownsMap.look_ok h keyed_str ht hz (zd := .held z) (zp := []) rfl (MapO.key s hs)
  rw [hat] at hv
  unfold heldR at hv
  injection hv with hv
  injection hv with hv _
  injection hv with hv
  rw [hrun, hv, hh]

theorem Rd.ex {O : Nat → Prop} {W w : World} {v : Value} {n size : Nat} {xs : List Value} (hX : Ex O W w) (hv : ∀ k, v.ownBlock = some k → ¬ O k) (h : Rd W v n size xs) : Rd w v n size xs := by
  obtain ⟨hl, a, cap, rfl, h0⟩ := h
  refine ⟨hl, a, cap, rfl, ?_⟩
  rcases h0 with h0 | ⟨b, o, rfl, hb, hc⟩
  · exact .inl h0
  · refine .inr ⟨b, o, rfl, Nat.lt_of_lt_of_le hb hX.size, fun j u hu => ?_⟩
    rw [World.cell?_of_block (a := ⟨b, o + j, none⟩) (hX.block b hb (hv b rfl))]
    exact hc j u hu
theorem Own.ty {C b base : Nat} {v : Value} {gs : List Nat} {W : World} {c : List Cu} {D : DataW Value} {T : Int} (h : CarS W C b base v c gs D T) {k : Nat} (hk : Own C b v gs k) {cur : Array Value} {T' : TypeId} {fz : Nat × Nat} (hh : W.heap[k]? = some (.cells cur T' fz)) :
    T' = 65 ∨ T' = 57 ∨ T' = 3 := by
  rcases hk with rfl | rfl | hk | hk
  · have := h.cc.cel
    unfold Blk at this
    rw [this] at hh
    injection hh with hh
    injection hh with _ hh _
    exact .inl hh.symm
  · obtain ⟨n, _, hm⟩ := h.m
    exact absurd hh hm.no
  · obtain ⟨_, _, cur2, hcc⟩ := own_base h.cc.cues.own hk
    rw [hcc] at hh
    injection hh with hh
    injection hh with _ hh _
    exact .inr (.inl hh.symm)
  · obtain ⟨_, vs, hb⟩ := h.e.blk hk
    unfold Blk at hb
    rw [hb] at hh
    injection hh with hh
    injection hh with _ hh _
    exact .inr (.inr hh.symm)
theorem shown_keep {C b base : Nat} {v sv : Value} {gs : List Nat} {W w : World} {c cs' : List Cu} {D : DataW Value} {T : Int} (h : CarS W C b base v c gs D T) (hX : Ex (Own C b v gs) W w) (hR : CuesR W sv cs') (hL : ∀ x ∈ cs', LnT W x.lv ∧ FitS x.lv)
    (hs : ∀ k, sv.ownBlock = some k → ¬ Own C b v gs k) : CuesR w sv cs' ∧ ∀ x ∈ cs', LnT w x.lv ∧ FitS x.lv := by
  have hno : ∀ x ∈ cs', ∀ k, x.lv.ownBlock = some k → ¬ Own C b v gs k := fun x hx k hk hO => by
    obtain ⟨cur, fz, hh⟩ := (hL x hx).1 k hk
    rcases Own.ty h hO hh with q | q | q <;> revert q <;> decide
  refine ⟨⟨Rd.ex hX hs hR.1, fun x hx => Rd.ex hX (hno x hx) (hR.2 x hx)⟩, fun x hx => ⟨(hL x hx).1.keep fun k hk => hX.block k ((hL x hx).1.lt hk) (hno x hx k hk), (hL x hx).2⟩⟩
theorem CarS.start (w : World) : CarS ((w.alloc (.map #[] 0)).alloc (.cells #[.slice none 0 0, .map (some w.heap.size)] 65)) (w.heap.size + 1) w.heap.size (w.heap.size + 1 + 1) (.slice none 0 0) [] [] (.map []) 0 := by
  refine ⟨⟨blk_new_at (by simp) [.slice none 0 0, .map (some w.heap.size)] _, ⟨by omega, by omega⟩, CuesO.nil _ _ _, fun x hx => (by cases hx)⟩, ⟨0, by omega, (MapO.new w).gr ((Gr.refl _).alloc _)⟩, EndsR.new _ _, fun x hx => (by cases hx), by omega, fun i j x z h => (by simp at h), by simp, by simp⟩
theorem vs_of {f t : Int} {ss : List ByteArray} (h : vA (f, t, ss) = true) : Vs ss := by
  unfold vA vCue at h
  simp only [Bool.and_eq_true, decide_eq_true_eq] at h
  exact ⟨h.1.2.2.2.1, h.1.2.2.2.2, h.2⟩
theorem drop_from : ∀ {xs : List AC} {j : Nat} {x : AC}, xs.all vA = true → ordA xs = true → xs[j]? = some x → from_ x.2.1 (xs.drop (j + 1))
  | [], _, _, _, _, h => by simp at h
  | y :: xs, 0, x, hv, ho, h => by
    simp at h
    subst h
    exact ord_from ho hv
  | y :: xs, j + 1, x, hv, ho, h => by
    have ho' : ordA xs = true := by
      cases xs with
      | nil => rfl
      | cons z l =>
        have h1 : (decide (y.2.1 ≤ z.1) && ordA (z :: l)) = true := ho
        rw [Bool.and_eq_true] at h1
        exact h1.2
    rw [List.all_cons, Bool.and_eq_true] at hv
    have := drop_from (j := j) hv.2 ho' (by simpa using h)
    simpa using this
theorem carL_take {c P : List AC} {j : Nat} {x : AC} (h : P[j]? = some x) : carL c (P.take (j + 1)) = addA x (carL c (P.take j)) := by
  rw [List.take_add_one, h]
  unfold carL
  rw [Option.toList_some, List.foldl_append]
  rfl
theorem zeroC (w : World) : (zeroValue 24).run Tryz.prog w = .ok noI w := by
  simp [zeroValue, go_sem]
  rfl
set_option maxRecDepth 100000 in
set_option maxHeartbeats 8000000 in
theorem carry_ok (MB mc : Nat) (ml : List Value) (nm : ByteArray) (fr : Int) (lv : Value) (l : List Cu) (rv : Value) (rs : List Rn) (w : World) (hP : Pow w) (hb : Blk w MB 33 ml) (hm : MedR ml nm fr lv)
    (HN : Hid (∀ w', Calls Tryz.prog 47 #[.string nm] w' fun e w'' => e = .returned (.bool true) ∧ Gr w' w'')) (hns : nm.size ≤ 1000000) (hfr : 0 ≤ fr ∧ fr ≤ 2147483647) (hC : Cues w lv l) (hv : vCues l = true) (ho : ordA (l.map cAbs) = true) (hcn : l.length ≤ 64)
    (hR : Rd w rv rs.length 4 (rflat nm rs)) (hok : RunsOk 0 rs) (hend : ∀ r ∈ rs, r.film + r.len < 1000) (hrl : rs.length ≤ 1000) :
    Calls Tryz.prog 5 #[.agg #[.slice (some ⟨MB, 0, none⟩) 1 mc, .slice none 0 0], rv] w fun e w' => ∃ v' cs', e = .returned (.tuple #[v', .int .i64 0]) ∧ Gr w w' ∧ Cues w' v' cs' ∧ cs'.map cAbs = carR (l.map cAbs) [] rs := by
  have hmf := hmf_any Tryz.prog
  have hmm := @run_makeMap Tryz.prog
  have HV : Hid (∀ w', Gr w w' → Calls Tryz.prog 14 #[.agg #[.slice (some ⟨MB, 0, none⟩) 1 mc, .slice none 0 0]] w' fun e w'' => e = .returned (.int .i64 0) ∧ Gr w' w'') := Lib.hid fun w' hg => tvalid_ok MB mc ml nm fr lv l w' (hb.gr hg) hm HN hns hfr (hC.gr hg) hv hcn
  obtain ⟨ra, rcap, hrv, -⟩ := hR.2
  subst hrv
  have hR := Lib.hid hR
  have hC := Lib.hid hC
  have hv := Lib.hid hv
  have ho := Lib.hid ho
  have hok := Lib.hid hok
  have hend := Lib.hid hend
  have hPw := Lib.hid hP
  clear hP HN
  have hp0 := (((Blk.new w [.slice (some ⟨MB, 0, none⟩) 1 mc, .slice none 0 0] 37).gr ((Gr.refl _).alloc (.cells #[.slice none 0 0] 24))).gr ((Gr.refl _).alloc (.cells #[.int .i64 0] 41)))
  have hz0 := ((blk_new_at (w := w.alloc (.cells #[.slice (some ⟨MB, 0, none⟩) 1 mc, .slice none 0 0] 37)) (k := w.heap.size + 1) (by simp) [.slice none 0 0] 24).gr ((Gr.refl _).alloc (.cells #[.int .i64 0] 41)))
  have he0 := blk_new_at (w := (w.alloc (.cells #[.slice (some ⟨MB, 0, none⟩) 1 mc, .slice none 0 0] 37)).alloc (.cells #[.slice none 0 0] 24)) (k := w.heap.size + 1 + 1) (by simp) [.int .i64 0] 41
  have hg0 : Gr w (((w.alloc (.cells #[.slice (some ⟨MB, 0, none⟩) 1 mc, .slice none 0 0] 37)).alloc (.cells #[.slice none 0 0] 24)).alloc (.cells #[.int .i64 0] 41)) := (((Gr.refl w).alloc _).alloc _).alloc _
  go_enter_defers Tryz.func5, Tryz.ntmps5
  go_upto_region 2 with fail
  generalize ((w.alloc (.cells #[.slice (some ⟨MB, 0, none⟩) 1 mc, .slice none 0 0] 37)).alloc (.cells #[.slice none 0 0] 24)).alloc (.cells #[.int .i64 0] 41) = V at *
  obtain ⟨PB, hPB⟩ : ∃ PB, w.heap.size = PB := ⟨_, rfl⟩
  rw [hPB] at hp0 hz0 he0 ⊢
  replace hPB := Lib.hid hPB
  have p0 := hp0.lt
  have p1 := (hp0.cel.2 0 _ rfl).1
  have p2 := (hp0.cel.2 1 _ rfl).1
  go_upto_region 5 with ((go_at_call 14; (with_reducible refine (HV.out _ hg0).mono ?_); rintro e w1 ⟨rfl, hg1⟩))
  have hgw1 := hg0.trans hg1
  replace hp0 := hp0.gr hg1
  replace hz0 := hz0.gr hg1
  replace he0 := he0.gr hg1
  clear p0 p1 p2 hg0 hg1 HV
  have hMlo : PB + 1 + 1 < w1.heap.size := he0.lt
  have hM0 := MapO.new w1
  have hgA : Gr w1 (w1.alloc (.map #[] 0)) := (Gr.refl _).alloc _
  replace hp0 := hp0.gr hgA
  replace hz0 := hz0.gr hgA
  replace he0 := he0.gr hgA
  have hgw := hgw1.trans hgA
  clear hgA hgw1
  go_upto_region 6 with fail
  generalize w1.alloc (.map #[] 0) = V1 at *
  generalize w1.heap.size = M at *
  have p0 := hp0.lt
  have p1 := (hp0.cel.2 0 _ rfl).1
  go_wp2
  go_loopw [33] (fun v wr => ∃ jj : Nat, jj ≤ 1 ∧ v = .int .i64 jj ∧ Gr w wr ∧ Blk wr (PB + 1) 24 [.slice none 0 0] ∧ Blk wr (PB + 1 + 1) 41 [.int .i64 0] ∧ (jj = 0 → MapO wr M 0 (.map [])) ∧ (jj = 1 → ∃ D1, MapO wr M 1 D1 ∧ D1.atKey (.string nm.data.toList) (.held noI) = .held lv ∧ Maps.has D1 (.string nm.data.toList) = true)) (fun v _ => 1 - (RowKit.intOf v).toNat)
  case atStart => exact ⟨0, by omega, rfl, hgw, hz0, he0, fun _ => hM0, fun h => by omega⟩
  case round =>
    obtain ⟨jj, hjj, rfl, hg, hE1, hE2, hz, hj⟩ := hrel
    clear hgw hp0 hz0 he0 hM0 p0 p1
    rcases (show jj = 0 ∨ jj = 1 by omega) with rfl | rfl
    · have hM1r := hz rfl
      clear hz hj
      have hBr := hb.gr hg
      have hbr : wr.heap[MB]? = some (.cells ml.toArray 33 (0, 0)) := hBr
      obtain ⟨k, hk⟩ : ∃ k, 141 = k := ⟨_, rfl⟩
      have aE : ∀ w, (isAgg 33).run Tryz.prog w = .ok true w := Tryz.isAgg33
      have zE : ∀ w, (Go.sizeOf 33).run Tryz.prog w = .ok k w := fun w => by rw [← hk]; exact Tryz.sizeOf33 w
      have hk0 : ¬ k = 0 := by omega
      have hlk : ml.length = k := hm.n.trans hk
      have st := st_fresh (P := Tryz.prog) wr 33 Tryz.zeroCells33 ml (by rw [hm.n]; exact infoMed1) (by rw [hm.n]; kernel_rfl) hm.one
      have hbx := Blk.new wr ml 33
      have hgx : Gr wr (wr.alloc (.cells ml.toArray 33)) := (Gr.refl wr).alloc _
      have hxr : (wr.alloc (.cells ml.toArray 33)).heap[wr.heap.size]? = some (.cells ml.toArray 33 (0, 0)) := hbx
      have y := hbx.lt
      have y0 := (hbx.cel.2 0 _ hm.c0).1
      have y1 := (hbx.cel.2 140 _ hm.c140).1
      have hM1x := hM1r.gr hgx
      replace hk := Lib.hid hk
      go_wp2_with (first
        | ((with_reducible refine wpList_load_row ?_ 33 (.tmp 35) ?_ MB ?_ 33 ml.toArray (0, 0) _ hbr Tryz.underlying33 ?_ ?_ ?_); (· rfl); (· rfl); (· rfl); (· rfl); (· rw [List.size_toArray, hm.n]; exact infoMed1))
        | (at_mapUpdate; refine wpList_mapUpdate_own _ rfl _ _ _ 60 rfl 9 24 keyed_str Tryz.underlying60 heldR M 0 (.map []) rfl hM1x (by unfold maxLen; omega) (.string nm) lv (Lit.string nm.data.toList) rfl rfl (MapO.key nm (by unfold maxLen; omega)) (.held lv) [] rfl ?_; intro w9 hown9 hgrow9))
      have hgr9 : Gr w w9 := (hg.trans hgx).grown hgrow9 (fun k hk => by have e := hPB.out; injection hk with hk; omega)
      have hne : ∀ b, b ≠ M → (some M : Option Nat) ≠ some b := fun b hb e => hb (by injection e with e; exact e.symm)
      have hmp : Maps.IsMap (DataW.map [] : DataW Value) := ⟨[], rfl⟩
      have hkl : WideAt.IsKeyLit (Lit.string nm.data.toList) := trivial
      exact ⟨⟨1, by omega, rfl, hgr9, (hE1.gr hgx).grown hgrow9 (hne _ (by omega)), (hE2.gr hgx).grown hgrow9 (hne _ (by omega)), fun h => by omega, fun _ => ⟨_, hown9, Maps.atKey_put_same hmp hkl _ _, Maps.has_put_same hmp hkl _⟩⟩, by simp [RowKit.intOf]⟩
    · obtain ⟨D1, hD1, hat1, hhas1⟩ := hj rfl
      clear hz hj
      obtain ⟨wa, rfl⟩ : ∃ wa, wa = wr := ⟨wr, rfl⟩
      replace hg := Lib.hid hg
      replace hD1 := Lib.hid hD1
      replace hE1 := Lib.hid hE1
      replace hE2 := Lib.hid hE2
      replace hat1 := Lib.hid hat1
      replace hhas1 := Lib.hid hhas1
      go_wp2
      go_loopw [45] (fun v wr => ∃ k : Nat, k ≤ rs.length ∧ v = .int .i64 k ∧ Gr wa wr) (fun v _ => rs.length - (RowKit.intOf v).toNat)
      case atStart => exact ⟨0, by omega, rfl, Gr.refl _⟩
      case round =>
        obtain ⟨k, hk, rfl, hgx⟩ := hrel
        by_cases c1 : k < rs.length
        · have q1 : decide (k < rs.length) = true := decide_eq_true c1
          have hRx := (hR.out.gr hg.out).gr hgx
          obtain ⟨rb, ro, rcap', hrv, hrb, hrc⟩ := hRx.addr (by omega)
          injection hrv with e1 e2 e3
          subst e1 e3
          clear e2
          obtain ⟨r, hr⟩ : ∃ r, rs[k]? = some r := ⟨_, List.getElem?_eq_getElem c1⟩
          have x0 := hrc _ _ (rflat_at nm rs k r hr 0 _ rfl)
          have x1 := hrc _ _ (rflat_at nm rs k r hr 1 _ rfl)
          have x2 := hrc _ _ (rflat_at nm rs k r hr 2 _ rfl)
          have x3 := hrc _ _ (rflat_at nm rs k r hr 3 _ rfl)
          simp only [Nat.add_zero, ← Nat.add_assoc] at x0 x1 x2 x3
          have hgn : Gr wr (wr.alloc (.cells #[.string nm, .int .i64 r.film, .int .i64 r.frm, .int .i64 r.len] 40)) := (Gr.refl _).alloc _
          have hlk := MapO.has ((hD1.out.gr hgx).gr hgn) Tryz.underlying60 (zeroC _) (by unfold maxLen; omega) hat1.out hhas1.out
          clear hrc hRx hr
          go_wp2
          go_roundw
          case rel => exact ⟨k + 1, by omega, by go_num, hgx.trans hgn⟩
          case measure => simp [RowKit.intOf]; omega
        · have q1 : decide (k < rs.length) = false := decide_eq_false c1
          obtain ⟨wb, rfl⟩ : ∃ wb, wb = wr := ⟨wr, rfl⟩
          replace hgx := Lib.hid hgx
          go_wp2
          go_loopw [15, 61] (fun _ v wr => ∃ k : Nat, k ≤ rs.length ∧ v = .int .i64 k ∧ Gr wb wr) (fun _ v _ => rs.length - (RowKit.intOf v).toNat)
          case atStart => exact ⟨0, by omega, rfl, Gr.refl _⟩
          case round =>
            obtain ⟨k2, hk2, rfl, hgy⟩ := hrel
            by_cases c2 : k2 < rs.length
            · have q2 : decide (k2 < rs.length) = true := decide_eq_true c2
              have hRx := ((hR.out.gr hg.out).gr hgx.out).gr hgy
              obtain ⟨rb, ro, rcap', hrv, hrb, hrc⟩ := hRx.addr (by omega)
              injection hrv with e1 e2 e3
              subst e1 e3
              clear e2
              obtain ⟨r, hr⟩ : ∃ r, rs[k2]? = some r := ⟨_, List.getElem?_eq_getElem c2⟩
              have x0 := hrc _ _ (rflat_at nm rs k2 r hr 0 _ rfl)
              have x1 := hrc _ _ (rflat_at nm rs k2 r hr 1 _ rfl)
              have x2 := hrc _ _ (rflat_at nm rs k2 r hr 2 _ rfl)
              have x3 := hrc _ _ (rflat_at nm rs k2 r hr 3 _ rfl)
              simp only [Nat.add_zero, ← Nat.add_assoc] at x0 x1 x2 x3
              have hgn : Gr wr (wr.alloc (.cells #[.string nm, .int .i64 r.film, .int .i64 r.frm, .int .i64 r.len] 40)) := (Gr.refl _).alloc _
              have HR : Hid (∀ w', Calls Tryz.prog 15 #[.agg #[.string nm, .int .i64 r.film, .int .i64 r.frm, .int .i64 r.len]] w' fun e w'' => e = .returned (.bool true) ∧ Gr w' w'') := Lib.hid fun w' => validrun_yes nm _ _ _ w' (by
                obtain ⟨u1, u2, u3, u4, u5⟩ := hok.out.mem r (List.mem_of_getElem? hr)
                exact ⟨u1, u2, u3, u4, u5⟩)
              clear hrc hRx hr
              go_wp2_with ((go_at_call 15; (with_reducible refine (HR.out _).mono ?_); rintro e w2 ⟨rfl, hg2⟩))
              refine ⟨⟨_, _, _, _, _, _, _, _, _, ⟨k2 + 1, by omega, by go_num, (hgy.trans hgn).trans hg2⟩, rfl⟩, ?_⟩
              simp [RowKit.intOf]
              omega
            · have q2 : decide (k2 < rs.length) = false := decide_eq_false c2
              go_upto_region 25 with fail
              obtain ⟨wc, rfl⟩ : ∃ wc, wc = wr := ⟨wr, rfl⟩
              have hwc : Gr w wc := (hg.out.trans hgx.out).trans hgy
              have hK0 := CarS.start wc
              have hgV : Gr wc ((wc.alloc (.map #[] 0)).alloc (.cells #[.slice none 0 0, .map (some wc.heap.size)] 65)) := ((Gr.refl wc).alloc _).alloc _
              have hbM : M < wc.heap.size := ((hD1.out.gr hgx.out).gr hgy).lt
              replace hwc := Lib.hid hwc
              replace hgy := Lib.hid hgy
              replace hK0 := Lib.hid hK0
              generalize (wc.alloc (.map #[] 0)).alloc (.cells #[.slice none 0 0, .map (some wc.heap.size)] 65) = V2 at *
              obtain ⟨b, hbb⟩ : ∃ b, wc.heap.size = b := ⟨_, rfl⟩
              rw [hbb] at hK0 ⊢
              have hbb := Lib.hid hbb
              go_wp2
              go_loopw [18, 19, 20, 22, 73] (fun _ _ _ _ u wr => ∃ (k : Nat) (v : Value) (c : List Cu) (gs : List Nat) (D : DataW Value) (T : Int), k ≤ rs.length ∧ u = .int .i64 k ∧ Gr wc wr ∧ CarS wr (b + 1) b (b + 1 + 1) v c gs D T ∧ Hid (c.map cAbs = carR (l.map cAbs) [] (rs.take k) ∧ T ≤ endR 0 (rs.take k))) (fun _ _ _ _ u _ => rs.length - (RowKit.intOf u).toNat)
              case atStart => exact ⟨0, _, _, _, _, _, by omega, rfl, hgV, hK0.out, Lib.hid ⟨rfl, Int.le_refl _⟩⟩
              case round =>
                obtain ⟨k3, v, c, gs, D, T, hk3, rfl, hgz, hK, hst⟩ := hrel
                clear hgV hK0
                by_cases c3 : k3 < rs.length
                · have q3 : decide (k3 < rs.length) = true := decide_eq_true c3
                  obtain ⟨wd, rfl⟩ : ∃ wd, wd = wr := ⟨wr, rfl⟩
                  have hRx := (hR.out.gr hwc.out).gr hgz
                  obtain ⟨rb, ro, rcap', hrv, hrb, hrc⟩ := hRx.addr (by omega)
                  injection hrv with e1 e2 e3
                  subst e1 e3
                  clear e2
                  obtain ⟨r, hr⟩ : ∃ r, rs[k3]? = some r := ⟨_, List.getElem?_eq_getElem c3⟩
                  have x0 := hrc _ _ (rflat_at nm rs k3 r hr 0 _ rfl)
                  have x1 := hrc _ _ (rflat_at nm rs k3 r hr 1 _ rfl)
                  have x2 := hrc _ _ (rflat_at nm rs k3 r hr 2 _ rfl)
                  have x3 := hrc _ _ (rflat_at nm rs k3 r hr 3 _ rfl)
                  simp only [Nat.add_zero, ← Nat.add_assoc] at x0 x1 x2 x3
                  obtain ⟨u1, u2, u3, u4, u5⟩ := hok.out.mem r (List.mem_of_getElem? hr)
                  have hfl := hend.out r (List.mem_of_getElem? hr)
                  have hgn : Gr wd (wd.alloc (.cells #[.string nm, .int .i64 r.film, .int .i64 r.frm, .int .i64 r.len] 40)) := (Gr.refl _).alloc _
                  have hb18 := Blk.new wd (rcells nm r) 40
                  have hlk := MapO.look ((((hD1.out.gr hgx.out).gr hgy.out).gr hgz).gr hgn) Tryz.underlying60 (zeroC _) (by unfold maxLen; omega) hat1.out
                  have z0 := hb18.lt
                  have z1 := (hb18.cel.2 1 _ rfl).1
                  have z2 := (hb18.cel.2 2 _ rfl).1
                  have z3 := (hb18.cel.2 3 _ rfl).1
                  have HCT : Hid (∀ w', Gr wc w' → Calls Tryz.prog 16 #[lv, .int .i64 r.frm, .int .i64 (r.frm + r.len)] w' fun e w'' => ∃ v' cs', e = .returned (.tuple #[v', .int .i64 0]) ∧ Gr w' w'' ∧ Cues w'' v' cs' ∧ cs'.map cAbs = cutA r.frm (r.frm + r.len) (l.map cAbs) ∧ (∀ k, v'.ownBlock = some k → w'.heap.size ≤ k) ∧ ∀ c ∈ cs', LnT w'' c.lv ∧ FitS c.lv) := Lib.hid fun w' hg' => cut2_yes lv l r.frm (r.frm + r.len) w' ((hC.out.gr hwc.out).gr hg') ⟨hv.out, by omega, by omega, by omega⟩
                  have hpc := pieces_ok (l := l.map cAbs) (r := r) (by rw [← vCues_abs]; exact hv.out) ho.out u1 u2 u3 u4
                  have hcv : (cutA r.frm (r.frm + r.len) (l.map cAbs)).all vA = true := cut_valid u2 (by rw [← vCues_abs]; exact hv.out)
                  replace hpc := Lib.hid hpc
                  replace hcv := Lib.hid hcv
                  replace hr := Lib.hid hr
                  replace hst := Lib.hid hst
                  replace hgz := Lib.hid hgz
                  replace hb18 := Lib.hid hb18
                  clear hrc hRx
                  obtain ⟨N, hN⟩ : ∃ N, wd.heap.size = N := ⟨_, rfl⟩
                  go_upto_region 29 with ((go_at_call 16; (with_reducible refine (HCT.out _ (hgz.out.trans hgn)).mono ?_); rintro e w2 ⟨sv, cs', rfl, hg2, hcs, hmap, hnew, hln⟩; obtain ⟨sa, scap, rfl, -⟩ := hcs.at_.shape))
                  have hK2 := (hK.gr hgn).gr hg2
                  have hgc2 : Gr wc w2 := (hgz.out.trans hgn).trans hg2
                  have hB2 := (hb18.out.gr hg2)
                  rw [hN] at hB2
                  have hsn : ∀ k, (Value.slice sa cs'.length scap).ownBlock = some k → ¬ Own (b + 1) b v gs k := fun k hk hO => by
                    have h1 := Own.lt_base (hK.gr hgn) hO
                    have h2 := hnew k hk
                    omega
                  have hP0 : Hid (∀ P, P = shiftA r.film (cs'.map cAbs) → P = pieces (l.map cAbs) r) := Lib.hid fun P h => by rw [h, hmap]; rfl
                  have hs0 : T ≤ r.film := by
                    have := RunsOk.at hok.out hr.out
                    have := hst.out.2
                    omega
                  have hcR := hcs.at_
                  have hcsn := hcs.n
                  have hst0 := Lib.hid hst.out.1
                  replace hK2 := Lib.hid hK2
                  replace hB2 := Lib.hid hB2
                  replace hcR := Lib.hid hcR
                  replace hln := Lib.hid hln
                  replace hsn := Lib.hid hsn
                  replace hmap := Lib.hid hmap
                  clear hcs hnew z0 z1 z2 z3 hlk x0 x1 x2 x3 hgn hg2 hb18 HCT
                  replace hN := Lib.hid hN
                  go_wp2
                  go_loopw [97] (fun u wr => ∃ (j : Nat) (v : Value) (c2 : List Cu) (gs : List Nat) (D : DataW Value) (T : Int), j ≤ cs'.length ∧ u = .int .i64 j ∧ Gr wc wr ∧ Blk wr N 40 (rcells nm r) ∧ CarS wr (b + 1) b (b + 1 + 1) v c2 gs D T ∧ CuesR wr (.slice sa cs'.length scap) cs' ∧ (∀ x ∈ cs', LnT wr x.lv ∧ FitS x.lv) ∧ Hid (∀ k, (Value.slice sa cs'.length scap).ownBlock = some k → ¬ Own (b + 1) b v gs k) ∧
                    Hid (c2.map cAbs = carL (c.map cAbs) ((pieces (l.map cAbs) r).take j) ∧ from_ T ((pieces (l.map cAbs) r).drop j) ∧ T ≤ r.film + r.len)) (fun u _ => cs'.length - (RowKit.intOf u).toNat)
                  case atStart => exact ⟨0, _, _, _, _, _, by omega, rfl, hgc2, hB2.out, hK2.out, hcR.out, hln.out, hsn, Lib.hid ⟨rfl, fun x hx => by have := hpc.out.2.2.1 x hx; omega, by omega⟩⟩
                  case round =>
                    clear hK2 hB2 hcR hln hsn hgc2 hK hst hs0 v gs D T
                    obtain ⟨j, v, c2, gs, D, T, hj, rfl, hgw, hB, hK, hcR, hln, hsn, hst⟩ := hrel
                    by_cases c4 : j < cs'.length
                    · as_aux_lemma =>
                      have q4 : decide (j < cs'.length) = true := decide_eq_true c4
                      obtain ⟨we, rfl⟩ : ∃ we, we = wr := ⟨wr, rfl⟩
                      obtain ⟨sa', scap', hsv, hsc⟩ := hcR.shape
                      injection hsv with e1 e2 e3
                      subst e1 e3
                      clear e2
                      rcases hsc with h | ⟨sb, so, rfl, hsb, hcc⟩
                      · omega
                      obtain ⟨y0, y1, y2⟩ := hcc j c4
                      obtain ⟨x, hx⟩ : ∃ x, cs'[j] = x := ⟨_, rfl⟩
                      have hxm : x ∈ cs' := by rw [← hx]; exact List.getElem_mem c4
                      rw [hx] at y0 y1 y2
                      have hxi : cs'[j]? = some x := by rw [← hx]; exact List.getElem?_eq_getElem c4
                      have hxl := hln x hxm
                      have hxs := hcR.2 x hxm
                      have hxa : cAbs x ∈ cutA r.frm (r.frm + r.len) (l.map cAbs) := by rw [← hmap.out]; exact List.mem_map_of_mem hxm
                      have hxv := List.all_eq_true.1 hcv.out _ hxa
                      have hPj : (pieces (l.map cAbs) r)[j]? = some (x.f + r.film, x.t + r.film, x.ss) := by
                        rw [← hP0.out _ rfl]
                        unfold shiftA
                        rw [List.getElem?_map, List.getElem?_map, hxi]
                        rfl
                      have hPm := List.mem_of_getElem? hPj
                      have hxb := vA_b hxv
                      have hxe := hpc.out.2.2.2 _ hPm
                      have hTx : T ≤ x.f + r.film := hst.out.2.1 (x.f + r.film, x.t + r.film, x.ss) (List.mem_of_getElem? (i := 0) (by rw [List.getElem?_drop]; simpa using hPj))
                      have hnext := drop_from hpc.out.1 hpc.out.2.1 hPj
                      have htk := carL_take (c := c.map cAbs) hPj
                      have hvs : Vs x.ss := vs_of hxv
                      obtain ⟨la, lcap, hlv, -⟩ := hxs.shape
                      have hxf : 0 ≤ x.f ∧ x.f < x.t ∧ x.t + r.film ≤ r.film + r.len := ⟨hxb.1, hxb.2.1, hxe⟩
                      have HA : Hid (∀ w', Gr we w' → Calls Tryz.prog 17 #[.pointer (some ⟨b + 1, 0, none⟩), .agg #[.int .i64 (x.f + r.film), .int .i64 (x.t + r.film), .slice la x.ss.length lcap]] w' fun e w'' => e = .returned (.tuple #[]) ∧ ∃ v' c' gs' D', CarS w'' (b + 1) b (b + 1 + 1) v' c' gs' D' (x.t + r.film) ∧ c'.map cAbs = addA (x.f + r.film, x.t + r.film, x.ss) (c2.map cAbs) ∧ Ex (Own (b + 1) b v gs) we w'' ∧ ∀ k, k < we.heap.size → Own (b + 1) b v' gs' k → Own (b + 1) b v gs k) := Lib.hid fun w' hg' => by
                        rw [← hlv]
                        refine (caradd_any (x := ⟨x.f + r.film, x.t + r.film, x.lv, x.ss⟩) wc w' (hPw.out.gr hwc.out) (hgw.trans hg') (by rw [hbb.out]; exact Nat.le_refl _) (hK.gr hg') (hxs.gr hg') (hxl.1.gr hg') hxl.2 hvs hTx (by simp only; omega) (by simp only; omega)).mono ?_
                        rintro e w'' ⟨h1, v', c', gs', D', h2, h3, h4, h5⟩
                        exact ⟨h1, v', c', gs', D', h2, h3, (Gr.ex hg').trans h4 (fun k _ h => h), fun k hk => h5 k (Nat.lt_of_lt_of_le hk hg'.size)⟩
                      rw [hlv] at y2
                      have z0 := hB.lt
                      have z1 := (hB.cel.2 1 _ rfl).1
                      replace hxl := Lib.hid hxl
                      replace hxs := Lib.hid hxs
                      replace hPj := Lib.hid hPj
                      replace hnext := Lib.hid hnext
                      replace htk := Lib.hid htk
                      replace hxi := Lib.hid hxi
                      replace hB := Lib.hid hB
                      clear hcc hx hxm hxa hxv hPm hlv
                      go_wp2_with ((go_at_call 17; (with_reducible refine (HA.out _ ?_).mono ?_); (· exact (by repeat (first | with_reducible exact Gr.refl _ | with_reducible assumption | refine Gr.setCell ?_ (by first | omega | (simp; done) | (simp; omega)) _ | refine Gr.alloc ?_ _ | refine Gr.drew ?_ | refine Gr.drewN ?_ _ | refine Gr.trans ?_ (by with_reducible assumption)))); rintro e w7 ⟨rfl, v', c', gs', D', hK', hmap', hX', hO'⟩))
                      have hnoN : ¬ Own (b + 1) b v gs N := fun hO => by
                        have hBN := hB.out
                        unfold Blk at hBN
                        rcases Own.ty hK hO hBN with q | q | q <;> revert q <;> decide
                      obtain ⟨hR7, hL7⟩ := shown_keep hK hX' hcR hln hsn.out
                      refine ⟨⟨j + 1, v', c', gs', D', x.t + r.film, by omega, by go_num, Ex.gr hgw hX' (fun k hk hO => by have := Own.ge hK hO; have := hbb.out; omega), Ex.blk hX' hB.out hnoN, hK', hR7, hL7, Lib.hid (fun k hk hO => hsn.out k hk (hO' k (by have : sb = k := (by simpa [Value.ownBlock] using hk); omega) hO)), Lib.hid ⟨?_, hnext.out, by omega⟩⟩, by simp [RowKit.intOf]; omega⟩
                      rw [hmap', hst.out.1, htk.out]
                    · as_aux_lemma =>
                      have q4 : decide (j < cs'.length) = false := decide_eq_false c4
                      have hjl : j = cs'.length := by omega
                      have hPl : (pieces (l.map cAbs) r).length = cs'.length := by
                        rw [← hP0.out _ rfl]
                        unfold shiftA
                        rw [List.length_map, List.length_map]
                      have hfin : Hid (c2.map cAbs = carR (l.map cAbs) [] (rs.take (k3 + 1)) ∧ T ≤ endR 0 (rs.take (k3 + 1))) := by
                        refine Lib.hid ?_
                        rw [List.take_add_one, hr.out]
                        show _ = carR (l.map cAbs) [] (rs.take k3 ++ [r]) ∧ T ≤ endR 0 (rs.take k3 ++ [r])
                        rw [carR_snoc, endR_snoc]
                        refine ⟨?_, hst.out.2.2⟩
                        rw [hst.out.1, hst0.out, List.take_of_length_le (l := pieces (l.map cAbs) r) (by omega)]
                      clear hst hln hsn hcR hB
                      go_wp2
                      refine ⟨⟨_, _, _, _, _, _, _, _, _, _, _, _, _, _, _, _, _, _, _, _, _, _, _, _, _, _, _, _, _, _, _, _, _, _, _, _, _, _, _, _, _, _, _, _, _, _, _, _, ⟨k3 + 1, v, c2, gs, D, T, by omega, by go_num, hgw, hK, hfin⟩, rfl⟩, ?_⟩
                      simp [RowKit.intOf]
                      omega
                · as_aux_lemma =>
                  have q3 : decide (k3 < rs.length) = false := decide_eq_false c3
                  have hk3e : k3 = rs.length := by omega
                  have hfin : Hid (c.map cAbs = carR (l.map cAbs) [] rs) := by
                    refine Lib.hid ?_
                    rw [hst.out.1, hk3e, List.take_length]
                  clear hst hk3e
                  have hgW : Gr w wr := hwc.out.trans hgz
                  have hall : Hid ((c.map cAbs).all vA = true) := by
                    refine Lib.hid ?_
                    rw [hfin.out]
                    exact (carR_find (n := 0) (l := l.map cAbs) (by rw [← vCues_abs]; exact hv.out) ho.out (rs := rs) (c := []) (T := 0) (fun y hy => (by cases hy)) rfl hok.out).2
                  obtain ⟨po, co, rfl⟩ := own_shape hK.cc.cues.own
                  have hgaw : Gr wa wr := (hgx.out.trans hgy.out).trans hgz
                  have hE1' := hE1.out.gr hgaw
                  have hE2' := hE2.out.gr hgaw
                  have hcc := hK.cc
                  have hbl := hcc.cel
                  have hbM2 := hbM
                  have hbe := hbb.out
                  have z0 := hbl.lt
                  have z1 := (hbl.cel.2 0 _ rfl).1
                  have e1 := hE1'.lt
                  have e2 := hE2'.lt
                  obtain ⟨f1, f3⟩ := hE1'.cel.one
                  obtain ⟨f2, f4⟩ := hE2'.cel.one
                  have hlen := hK.len
                  have hpos := hK.pos
                  have hK := Lib.hid hK
                  have hcc := Lib.hid hcc
                  clear hbl
                  go_wp2
                  refine leaves_cons (f := 13) (args := #[.pointer (some ⟨PB + 1, 0, none⟩), .pointer (some ⟨PB + 1 + 1, 0, none⟩)]) (by simp) (by simp [go_sem]) ?_
                  refine (carryD_idle _ _ _).mono ?_
                  rintro e u' w'' ⟨rfl, rfl, rfl⟩
                  have hge : ∀ k, (Value.slice po c.length co).ownBlock = some k → b + 1 + 1 ≤ k := fun k hk => (own_base hcc.out.cues.own hk).1
                  have hlnT : ∀ x ∈ c, ∀ k, x.lv.ownBlock = some k → k ≠ PB + 1 ∧ k ≠ PB + 1 + 1 := fun x hx k hk => by
                    obtain ⟨cur, fz, hh⟩ := (hcc.out.lns x hx).1 k hk
                    refine ⟨fun q => ?_, fun q => ?_⟩
                    · rw [q] at hh
                      have q2 : wr.heap[PB + 1]? = _ := hE1'
                      rw [q2] at hh
                      injection hh with hh
                      injection hh with _ hh _
                      revert hh
                      decide
                    · rw [q] at hh
                      have q2 : wr.heap[PB + 1 + 1]? = _ := hE2'
                      rw [q2] at hh
                      injection hh with hh
                      injection hh with _ hh _
                      revert hh
                      decide
                  have hrd : CuesR ((wr.setCell ⟨PB + 1, 0, none⟩ (.slice po c.length co)).setCell ⟨PB + 1 + 1, 0, none⟩ (.int .i64 0)) (.slice po c.length co) c :=
                    (hcc.out.cues.read.setCell ⟨PB + 1, 0, none⟩ _ (fun h => by have h1 : b + 1 + 1 ≤ PB + 1 := hge _ h; omega) (fun x hx h => (hlnT x hx _ h).1 rfl)).setCell ⟨PB + 1 + 1, 0, none⟩ _ (fun h => by have h1 : b + 1 + 1 ≤ PB + 1 + 1 := hge _ h; omega) (fun x hx h => (hlnT x hx _ h).2 rfl)
                  have hok2 : ∀ x ∈ c, CuOk x := fun x hx => by
                    have h1 := hK.out.top x hx
                    have h2 := (hcc.out.lns x hx).2.2
                    have h3 : (c.map cAbs).all vA = true := hall.out
                    have h4 := vA_b (List.all_eq_true.1 h3 _ (List.mem_map_of_mem hx))
                    have h5 : 0 ≤ x.f ∧ x.f < x.t := ⟨h4.1, h4.2.1⟩
                    refine ⟨by omega, by omega, by omega, by omega, by have := h2.l4; omega, fun s hs => ?_⟩
                    have h6 := vline_len (List.all_eq_true.1 h2.ok s hs)
                    have : s.size = s.data.toList.length := by rw [Array.length_toList]; rfl
                    omega
                  simp [Leaves, settle, results, Tryz.results5, go_sem, f1, f2]
                  have hpb := hPB.out
                  exact ⟨(hgW.setCell (by show w.heap.size ≤ PB + 1; omega) _).setCell (by show w.heap.size ≤ PB + 1 + 1; omega) _, c, ⟨hrd, hok2, by omega⟩, hfin.out⟩
end Go.Proofs.YthadhmhbbfjomaaGreatDoor
