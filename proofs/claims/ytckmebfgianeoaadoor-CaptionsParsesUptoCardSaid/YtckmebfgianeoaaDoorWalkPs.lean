/-
  Contract of Parse of package captions.
  Conditions: the text has fewer than 4,294,967,281 bytes; the variable of bytealg holds an int, the row of powers stands.
-/
import Derived.Test.YtckmebfgianeoaaDoorWalkPc
import Derived.Test.YtckmebfgianeoaaDoorMathPb
import Derived.Test.YtckmebfgianeoaaDoorWalkTp
import Derived.Outline
namespace Go.Proofs.YtckmebfgianeoaaDoor
open Go.RowKit Go.Lib
set_option linter.unusedSimpArgs false
set_option linter.unusedVariables false

/-- whether a text is the Format of captions that are valid -/
def IsF (num den : Int) (S : List UInt8) (X : List Cu) : Prop := vCues X = true ∧ fmtG num den X = true ∧ fmtT num den 0 X = S
/-- what Parse hands back at a suitable rate -/
def PaR (num den : Int) (S : List UInt8) (w' : World) (v : Value) : Prop :=
  (v = .tuple #[.slice none 0 0, .int .i64 3] ∧ ∀ X, ¬ IsF num den S X) ∨ ∃ lv cs, v = .tuple #[lv, .int .i64 0] ∧ CuesR w' lv cs ∧ IsF num den S cs

theorem pa_cells (w : World) (num den : Int) (w1 : World) (hg1 : Gr (((w.alloc (.cells #[.int .i64 num, .int .i64 den] 47)).alloc (.cells #[.slice none 0 0] 22)).alloc (.cells #[.int .i64 0] 28)) w1) :
    Cel w1 w.heap.size [.int .i64 num, .int .i64 den] ∧ Cel w1 (w.heap.size + 1) [.slice none 0 0] ∧ Cel w1 (w.heap.size + 2) [.int .i64 0] := by
  have k0 := ((Cel.new w #[.int .i64 num, .int .i64 den] 47).alloc (.cells #[.slice none 0 0] 22)).alloc (.cells #[.int .i64 0] 28) |>.gr hg1
  have k1 := (Cel.new (w.alloc (.cells #[.int .i64 num, .int .i64 den] 47)) #[.slice none 0 0] 22).alloc (.cells #[.int .i64 0] 28) |>.gr hg1
  have k2 := (Cel.new ((w.alloc (.cells #[.int .i64 num, .int .i64 den] 47)).alloc (.cells #[.slice none 0 0] 22)) #[.int .i64 0] 28).gr hg1
  simp at k0 k1 k2
  exact ⟨k0, k1, k2⟩
theorem rd_two (W : World) (C D : Array Value) (t t' : TypeId) (n size cap : Nat) (h : D.size = n * size) : Rd ((W.alloc (.cells C t)).alloc (.cells D t')) (.slice (some ⟨W.heap.size + 1, 0, none⟩) n cap) n size D.toList := by
  have := Rd.new (W.alloc (.cells C t)) D t' n size cap h
  rwa [show (W.alloc (.cells C t)).heap.size = W.heap.size + 1 by simp] at this
/-- what parseCue hands back, read -/
theorem PcR.out {num den : Int} {s : List UInt8} {w w' : World} {v : Value} (hs : suB num den = true) (hz : s.length ≤ 140737488355328) (h : PcR num den s w w' v) :
    ∃ (a b : Int) (lv : Value) (ls : List ByteArray) (r : ByteArray) (f : Bool), v = .tuple #[.agg #[.int .i64 a, .int .i64 b, lv], .string r, .bool f] ∧ StrsR w' lv ls ∧ (∀ base, Far base 66 w' lv) ∧ (∀ k, lv.ownBlock = some k → w.heap.size ≤ k) ∧
      (f = false → pcP num den s = none) ∧ (f = true → pcP num den s = some ((a, b, ls), r.data.toList) ∧ CuOk ⟨a, b, lv, ls⟩ ∧ r.size < s.length) := by
  unfold PcR at h
  split at h
  · rename_i hp
    exact ⟨0, 0, _, [], ⟨#[]⟩, false, h, StrsR.nil _, fun base => Far.old (fun k hk => (by cases hk)), fun k hk => (by cases hk), fun _ => hp, fun hf => (by cases hf)⟩
  · rename_i c r hp
    obtain ⟨lv, base, rfl, ho, hb⟩ := h
    obtain ⟨c1, c2, c3⟩ := c
    have hq := pcP_out hs hp
    simp only at hq ho
    refine ⟨c1, c2, lv, c3, ⟨r.toArray⟩, true, rfl, Rd.own ho, fun base => Far.row ho (by decide), fun k hk => Nat.le_trans hb (own_ge ho k hk), fun hf => (by cases hf), fun _ => ⟨hp, ?_, hq.2.2.2.2.2.2⟩⟩
    exact ⟨by simp only; omega, hq.2.1, by simp only; omega, hq.2.2.2.1, by have := hq.2.2.2.2.1; simp only; omega, fun l hl => by have := hq.2.2.2.2.2.1 l hl; omega⟩

set_option maxRecDepth 20000 in
set_option maxHeartbeats 4000000 in
theorem parse_no (s : ByteArray) (num den : Int) (w : World) (hn : I64 num) (hd : I64 den) (hs : suB num den = false) :
    Calls Tryd.prog 29 #[.string s, .agg #[.int .i64 num, .int .i64 den]] w fun e w' => e = .returned (.tuple #[.slice none 0 0, .int .i64 1]) ∧ Gr w w' := by
  have hmf := hmf_any Tryd.prog
  have HS : Hid (∀ w', Calls Tryd.prog 47 #[.agg #[.int .i64 num, .int .i64 den]] w' fun e w'' => e = .returned (.bool false) ∧ Gr w' w'') := fun w' => by rw [← hs]; exact suitable_any num den w' hn hd
  clear hn hd hs
  go_enter_defers Tryd.func29, Tryd.ntmps29
  go_wp2_with (go_at_call 47; (with_reducible refine (HS.out _).mono ?_); rintro e w1 ⟨rfl, hg1⟩; obtain ⟨k0, k1, k2⟩ := pa_cells _ _ _ _ hg1; obtain ⟨a2, b2⟩ := k1.one; obtain ⟨a3, b3⟩ := k2.one)
  refine leaves_cons (f := 55) (args := #[.pointer (some ⟨w.heap.size + 1, 0, none⟩), .pointer (some ⟨w.heap.size + 1 + 1, 0, none⟩)]) (by simp) (by simp [go_sem]) ?_
  refine (parseD_idle _ _ _).mono ?_
  rintro e u' w'' ⟨rfl, rfl, rfl⟩
  simp [Leaves, settle, results, Tryd.results29, go_sem, a2, a3]
  exact (by repeat (first | with_reducible exact Gr.refl _ | with_reducible assumption | refine Gr.setCell ?_ (by first | omega | (simp; done) | (simp; omega)) _ | refine Gr.alloc ?_ _ | refine Gr.drew ?_ | refine Gr.drewN ?_ _ | refine Gr.trans ?_ (by with_reducible assumption)))

set_option maxRecDepth 20000 in
set_option maxHeartbeats 4000000 in
theorem parse_any (s : ByteArray) (num den : Int) (w : World) (hn : I64 num) (hd : I64 den) (hs : suB num den = true) (hz : s.size < 4294967281) (hM : Mx w) (hT : Pow w) :
    Calls Tryd.prog 29 #[.string s, .agg #[.int .i64 num, .int .i64 den]] w fun e w' => ∃ v, e = .returned v ∧ Gr w w' ∧ PaR num den s.data.toList w' v := by
  have hmf := hmf_any Tryd.prog
  have HS : Hid (∀ w', Calls Tryd.prog 47 #[.agg #[.int .i64 num, .int .i64 den]] w' fun e w'' => e = .returned (.bool true) ∧ Gr w' w'') := fun w' => by rw [← hs]; exact suitable_any num den w' hn hd
  have HP : Hid (∀ (t : ByteArray) w', Gr w w' → t.size < 4294967281 → Calls Tryd.prog 56 #[.string t, .agg #[.int .i64 num, .int .i64 den]] w' fun e w'' => ∃ (a b : Int) (lv : Value) (ls : List ByteArray) (r : ByteArray) (f : Bool), e = .returned (.tuple #[.agg #[.int .i64 a, .int .i64 b, lv], .string r, .bool f]) ∧ Gr w' w'' ∧ StrsR w'' lv ls ∧ (∀ base, Far base 66 w'' lv) ∧ (∀ k, lv.ownBlock = some k → w'.heap.size ≤ k) ∧
      Hid ((f = false → pcP num den t.data.toList = none) ∧ (f = true → pcP num den t.data.toList = some ((a, b, ls), r.data.toList) ∧ CuOk ⟨a, b, lv, ls⟩ ∧ r.size < t.size))) := fun t w' hg ht => (parseCue_any t num den w' hs ht (hM.gr hg)).mono fun e w'' ⟨v, he, hg', hv⟩ => by
    obtain ⟨a, b, lv, ls, r, f, rfl, h1, h2, h3, h4, h5⟩ := hv.out hs (by rw [ba_len]; omega)
    exact ⟨a, b, lv, ls, r, f, he, hg', h1, h2, h3, Lib.hid ⟨h4, fun hf => ⟨(h5 hf).1, (h5 hf).2.1, by have := (h5 hf).2.2; rwa [ba_len] at this⟩⟩⟩
  have HF : Hid (∀ (v : Value) (cs : List Cu) w', Gr w w' → Cues w' v cs → cs.length ≤ 4294967281 → Calls Tryd.prog 27 #[v, .agg #[.int .i64 num, .int .i64 den]] w' fun e w'' => ∃ (x : ByteArray) (er : Int), e = .returned (.tuple #[.string x, .int .i64 er]) ∧ Gr w' w'' ∧ Hid ((er = 0 ↔ vCues cs = true ∧ fmtG num den cs = true) ∧ (er = 0 → x.data.toList = fmtT num den 0 cs))) := by
    intro v cs w' hg hC hcl
    by_cases hv : vCues cs = true
    · refine (format_main v cs num den w' hC hn hd (Pow.gr hg hT) hv hs (by omega)).mono ?_
      rintro e w'' ⟨rfl, hg2⟩
      refine ⟨_, _, rfl, hg2, Lib.hid ?_⟩
      unfold fmtSS fmtEE
      cases hf : fmtG num den cs with
      | true => simp [hv]
      | false => simp
    · refine (format_no v cs num den w' hC hn hd (fun h => hv h.1)).mono ?_
      rintro e w'' ⟨rfl, hg2⟩
      refine ⟨_, _, rfl, hg2, Lib.hid ?_⟩
      simp [hv]
  have hs0 := Lib.hid hs
  clear hM hT hs hn hd
  go_enter_defers Tryd.func29, Tryd.ntmps29
  go_wp2_with (go_at_call 47; (with_reducible refine (HS.out _).mono ?_); rintro e w1 ⟨rfl, hg1⟩; obtain ⟨k0, k1, k2⟩ := pa_cells _ _ _ _ hg1)
  have hg0 : Gr w w1 := (((Gr.refl w).alloc _).alloc _).alloc _ |>.trans hg1
  go_loopw [6] (fun sv wr => ∃ (t : ByteArray) (cs : List Cu) (lv : Value), sv = .string t ∧ t.size + cs.length ≤ s.size ∧ Gr w wr ∧ Cel wr w.heap.size [.int .i64 num, .int .i64 den] ∧ Cel wr (w.heap.size + 1) [lv] ∧ Cel wr (w.heap.size + 1 + 1) [.int .i64 0] ∧ CuesO (w.heap.size + 3) 66 wr lv cs ∧ Hid (JP num den s.data.toList t.data.toList cs ∧ (∀ c ∈ cs, CuOk c) ∧ (∀ c ∈ cs, ∀ k, c.lv.ownBlock = some k → w.heap.size + 3 ≤ k))) (fun sv _ => strLn sv)
  case atStart => exact ⟨s, [], .slice none 0 0, rfl, by simp, hg0, k0, k1, k2, CuesO.nil _ _ _, Lib.hid ⟨JP.start _ _ _, fun c hc => (by cases hc), fun c hc => (by cases hc)⟩⟩
  case round =>
    obtain ⟨t, cs, lv, rfl, htz, hg, h0, h1, h2, hO, hno⟩ := hrel
    clear hg1 hg0 k0 k1 k2 HS w1
    obtain ⟨p9, c9, rfl⟩ := own_shape hO.own
    have hO := Lib.hid hO
    by_cases ct : t.data.toList = []
    · have qe : t.toList.isEmpty = true := by rw [ByteArray.toList_eq, List.isEmpty_iff]; exact ct
      obtain ⟨a1, b1⟩ := h1.one
      obtain ⟨a2, b2⟩ := h2.one
      obtain ⟨a3, b3, b4, b5, b6⟩ := h0.two
      have hC : Hid (Cues wr (.slice p9 cs.length c9) cs) := ⟨hO.out.read, hno.out.2.1, by omega⟩
      go_wp2_with (go_at_call 27; (with_reducible refine (HF.out _ cs _ hg hC.out ?_).mono ?_); (· omega); rintro e w2 ⟨x, er, rfl, hg2, hx2⟩; have k12 := h1.gr hg2; have k22 := h2.gr hg2; obtain ⟨x1, y1⟩ := k12.one; obtain ⟨x2, y2⟩ := k22.one; rcases Classical.em (er = 0) with he0 | he0; (have g1 : (er != 0) = false := by simp [he0]); rcases Classical.em (x = s) with hxs | hxs; (have g2 : (x.toList == s.toList) = true := by simp [hxs]); rotate_left; (have g2 : (x.toList == s.toList) = false := by rw [ByteArray.toList_eq, ByteArray.toList_eq]; exact beq_eq_false_iff_ne.2 (fun h => hxs (ba_ext h))); rotate_left; (have g1 : (er != 0) = true := by simp [he0]); rotate_left)
      · have hF : IsF num den s.data.toList cs := ⟨(hx2.out.1.1 he0).1, (hx2.out.1.1 he0).2, by rw [← hx2.out.2 he0, hxs]⟩
        have hrd : CuesR ((w2.setCell ⟨w.heap.size + 1, 0, none⟩ (.slice p9 cs.length c9)).setCell ⟨w.heap.size + 1 + 1, 0, none⟩ (.int .i64 0)) (.slice p9 cs.length c9) cs := by
          have hge := own_ge hO.out.own
          have hb1 : (Value.slice p9 cs.length c9).ownBlock ≠ some (w.heap.size + 1) := fun h => by have := hge _ h; omega
          have hb2 : (Value.slice p9 cs.length c9).ownBlock ≠ some (w.heap.size + 1 + 1) := fun h => by have := hge _ h; omega
          exact ((hO.out.gr hg2).read.setCell ⟨w.heap.size + 1, 0, none⟩ _ hb1 (fun c hc h => by have : w.heap.size + 3 ≤ w.heap.size + 1 := hno.out.2.2 c hc _ h; omega)).setCell ⟨w.heap.size + 1 + 1, 0, none⟩ _ hb2 (fun c hc h => by have : w.heap.size + 3 ≤ w.heap.size + 1 + 1 := hno.out.2.2 c hc _ h; omega)
        have hF := Lib.hid hF
        refine leaves_cons (f := 55) (args := #[.pointer (some ⟨w.heap.size + 1, 0, none⟩), .pointer (some ⟨w.heap.size + 1 + 1, 0, none⟩)]) (by simp) (by simp [go_sem]) ?_
        refine (parseD_idle _ _ _).mono ?_
        rintro e u' w'' ⟨rfl, rfl, rfl⟩
        simp [Leaves, settle, results, Tryd.results29, go_sem, x1, x2]
        exact ⟨(by repeat (first | with_reducible exact Gr.refl _ | with_reducible assumption | refine Gr.setCell ?_ (by first | omega | (simp; done) | (simp; omega)) _ | refine Gr.alloc ?_ _ | refine Gr.drew ?_ | refine Gr.drewN ?_ _ | refine Gr.trans ?_ (by with_reducible assumption))), .inr ⟨_, cs, rfl, hrd, hF.out⟩⟩
      · have hno3 : Hid (∀ X, ¬ IsF num den s.data.toList X) := by
          refine Lib.hid (fun X hX => hxs (ba_ext ?_))
          have hj := hno.out.1
          rw [ct] at hj
          have ha := hj.done X hX.1 hX.2.1 hX.2.2
          rw [hx2.out.2 he0, fmtT_abs num den 0 ha, hX.2.2]
        refine leaves_cons (f := 55) (args := #[.pointer (some ⟨w.heap.size + 1, 0, none⟩), .pointer (some ⟨w.heap.size + 1 + 1, 0, none⟩)]) (by simp) (by simp [go_sem]) ?_
        refine (parseD_idle _ _ _).mono ?_
        rintro e u' w'' ⟨rfl, rfl, rfl⟩
        simp [Leaves, settle, results, Tryd.results29, go_sem, x1, x2]
        exact ⟨(by repeat (first | with_reducible exact Gr.refl _ | with_reducible assumption | refine Gr.setCell ?_ (by first | omega | (simp; done) | (simp; omega)) _ | refine Gr.alloc ?_ _ | refine Gr.drew ?_ | refine Gr.drewN ?_ _ | refine Gr.trans ?_ (by with_reducible assumption))), .inl ⟨rfl, hno3.out⟩⟩
      · have hno3 : Hid (∀ X, ¬ IsF num den s.data.toList X) := by
          refine Lib.hid (fun X hX => he0 (hx2.out.1.2 ?_))
          have hj := hno.out.1
          rw [ct] at hj
          have ha := hj.done X hX.1 hX.2.1 hX.2.2
          rw [vCues_abs ha, fmtG_abs num den ha]
          exact ⟨hX.1, hX.2.1⟩
        refine leaves_cons (f := 55) (args := #[.pointer (some ⟨w.heap.size + 1, 0, none⟩), .pointer (some ⟨w.heap.size + 1 + 1, 0, none⟩)]) (by simp) (by simp [go_sem]) ?_
        refine (parseD_idle _ _ _).mono ?_
        rintro e u' w'' ⟨rfl, rfl, rfl⟩
        simp [Leaves, settle, results, Tryd.results29, go_sem, x1, x2]
        exact ⟨(by repeat (first | with_reducible exact Gr.refl _ | with_reducible assumption | refine Gr.setCell ?_ (by first | omega | (simp; done) | (simp; omega)) _ | refine Gr.alloc ?_ _ | refine Gr.drew ?_ | refine Gr.drewN ?_ _ | refine Gr.trans ?_ (by with_reducible assumption))), .inl ⟨rfl, hno3.out⟩⟩
    · have qe : t.toList.isEmpty = false := by rw [ByteArray.toList_eq, ← Bool.not_eq_true, List.isEmpty_iff]; exact ct
      obtain ⟨a1, b1⟩ := h1.one
      obtain ⟨a2, b2⟩ := h2.one
      obtain ⟨a3, b3, b4, b5, b6⟩ := h0.two
      obtain ⟨ic, hic, hic0, hic1, hic2⟩ := info_parts infoCue
      have hge := own_ge hO.out.own
      go_wp2_with (first
        | (go_at_call 56; (with_reducible refine (HP.out t _ hg ?_).mono ?_); (· omega); rintro e w2 ⟨ca, cb, lv2, ls, r, f, rfl, hg2, hs2, hf2, hk2, hp2⟩; obtain ⟨p3, cap3, rfl, hh3⟩ := hs2.shape; clear hh3; have k12 := h1.gr hg2; have k22 := h2.gr hg2; obtain ⟨x1, y1⟩ := k12.one; obtain ⟨x2, y2⟩ := k22.one; have hlt1 := k12.lt; have hlt2 := k22.lt; cases f)
        | (at_builtin; go_loud (refine wpList_append_rd rfl (.tmp 28) (.tmp 30) 22 rfl (w.heap.size + 3) 66 ic (.agg #[.int .i64 0, .int .i64 0, .slice none 0 0]) 3 40 (by kernel_rfl) hic hic0 hic1 hic2 rfl (by decide) (.slice p9 cs.length c9) cs.length (flat cs) rfl (hO.out.gr ((hg2.alloc _).alloc _)).own _ 1 [.int .i64 ca, .int .i64 cb, .slice p3 ls.length cap3] rfl (rd_two w2 #[.int .i64 ca, .int .i64 cb, .slice p3 ls.length cap3] #[.int .i64 ca, .int .i64 cb, .slice p3 ls.length cap3] 66 66 1 3 1 rfl) ?_ ?_ ?_ ?_ ?_; (· intro u hu; simp at hu; rcases hu with rfl | rfl | rfl <;> rfl); (· unfold maxLen; omega); (· omega); (· (try simp); omega); intro v3 w3 hown3 hgrow3; obtain ⟨a7, c7, rfl⟩ := own_shape hown3; have k13 := (((k12.alloc (.cells #[.int .i64 ca, .int .i64 cb, .slice p3 ls.length cap3] 66)).alloc (.cells #[.int .i64 ca, .int .i64 cb, .slice p3 ls.length cap3] 66))).grown hgrow3 (fun e => by have := hge _ e; omega); obtain ⟨x3, y3⟩ := k13.one)))
      · have hno3 : Hid (∀ X, ¬ IsF num den s.data.toList X) := by
          refine Lib.hid (fun X hX => ?_)
          exact hno.out.1.no hs0.out ct (hp2.out.1 (by first | rfl | trivial)) X hX.1 hX.2.1 hX.2.2
        have kA := ((k12.set (k := 0) (by simp) (.slice none 0 0)).grown (grown_setCell _ ⟨w.heap.size + 1 + 1, 0, none⟩ (.int .i64 3)) (fun h => by injection h with h; simp only at h; omega)).alloc (.cells #[.int .i64 ca, .int .i64 cb, .slice p3 ls.length cap3] 66)
        have kB := ((k22.grown (grown_setCell _ ⟨w.heap.size + 1, 0, none⟩ (.slice none 0 0)) (fun h => by injection h with h; simp only at h; omega)).set (k := 0) (by simp) (.int .i64 3)).alloc (.cells #[.int .i64 ca, .int .i64 cb, .slice p3 ls.length cap3] 66)
        simp only [List.set_cons_zero] at kA kB
        obtain ⟨z1, _⟩ := kA.one
        obtain ⟨z2, _⟩ := kB.one
        refine leaves_cons (f := 55) (args := #[.pointer (some ⟨w.heap.size + 1, 0, none⟩), .pointer (some ⟨w.heap.size + 1 + 1, 0, none⟩)]) (by simp) (by simp [go_sem]) ?_
        refine (parseD_idle _ _ _).mono ?_
        rintro e u' w'' ⟨rfl, rfl, rfl⟩
        simp [Leaves, settle, results, Tryd.results29, go_sem, z1, z2]
        exact ⟨(by repeat (first | with_reducible exact Gr.refl _ | with_reducible assumption | refine Gr.setCell ?_ (by first | omega | (simp; done) | (simp; omega)) _ | refine Gr.alloc ?_ _ | refine Gr.drew ?_ | refine Gr.drewN ?_ _ | refine Gr.trans ?_ (by with_reducible assumption))), .inl ⟨rfl, hno3.out⟩⟩
      · obtain ⟨hp3, hp4, hp5⟩ := hp2.out.2 (by first | rfl | trivial)
        have hgA : Gr wr ((w2.alloc (.cells #[.int .i64 ca, .int .i64 cb, .slice p3 ls.length cap3] 66)).alloc (.cells #[.int .i64 ca, .int .i64 cb, .slice p3 ls.length cap3] 66)) := (hg2.alloc _).alloc _
        have hgB : Gr w2 ((w2.alloc (.cells #[.int .i64 ca, .int .i64 cb, .slice p3 ls.length cap3] 66)).alloc (.cells #[.int .i64 ca, .int .i64 cb, .slice p3 ls.length cap3] 66)) := ((Gr.refl w2).alloc _).alloc _
        have hO3 := (hO.out.gr hgA).app ⟨ca, cb, .slice p3 ls.length cap3, ls⟩ (Rd.gr hgB hs2) (Far.gr hgB (hf2 _)) hown3 hgrow3
        have hg3 : Gr w w3 := (hg.trans hgA).grown hgrow3 (fun k hk => by have := hge k hk; omega)
        have k03 := (h0.gr hgA).grown hgrow3 (fun h => by have := hge _ h; omega)
        have k23 := (h2.gr hgA).grown hgrow3 (fun h => by have := hge _ h; omega)
        have hfar : ∀ d ∈ cs ++ [Cu.mk ca cb (.slice p3 ls.length cap3) ls], ∀ k, d.lv.ownBlock = some k → w.heap.size + 3 ≤ k := by
          intro d hd k hk
          rcases List.mem_append.1 hd with h | h
          · exact hno.out.2.2 d h k hk
          · rw [List.mem_singleton.1 h] at hk
            have := hk2 k hk
            have := h2.lt
            omega
        have hO4 := hO3.keep (grown_setCell w3 ⟨w.heap.size + 1, 0, none⟩ (.slice a7 (cs.length + 1) c7)) (by simp only; omega) (fun c hc h => by have := hfar c hc _ h; simp only at this; omega)
        have hg4 : Gr w (w3.setCell ⟨w.heap.size + 1, 0, none⟩ (.slice a7 (cs.length + 1) c7)) := hg3.setCell (by simp) _
        have k04 := k03.grown (grown_setCell w3 ⟨w.heap.size + 1, 0, none⟩ (.slice a7 (cs.length + 1) c7)) (fun h => by injection h with h; simp only at h; omega)
        have k24 := k23.grown (grown_setCell w3 ⟨w.heap.size + 1, 0, none⟩ (.slice a7 (cs.length + 1) c7)) (fun h => by injection h with h; simp only at h; omega)
        have k14 := k13.set (k := 0) (by simp) (.slice a7 (cs.length + 1) c7)
        simp only [List.set_cons_zero] at k14
        have hN : Hid (JP num den s.data.toList r.data.toList (cs ++ [Cu.mk ca cb (.slice p3 ls.length cap3) ls]) ∧ (∀ c ∈ cs ++ [Cu.mk ca cb (.slice p3 ls.length cap3) ls], CuOk c) ∧ (∀ c ∈ cs ++ [Cu.mk ca cb (.slice p3 ls.length cap3) ls], ∀ k, c.lv.ownBlock = some k → w.heap.size + 3 ≤ k)) := by
          refine Lib.hid ⟨hno.out.1.step hs0.out ct hp3 _ rfl, fun c hc => ?_, hfar⟩
          rcases List.mem_append.1 hc with h | h
          · exact hno.out.2.1 c h
          · rw [List.mem_singleton.1 h]; exact hp4
        go_roundw
        case rel => exact ⟨r, cs ++ [Cu.mk ca cb (.slice p3 ls.length cap3) ls], .slice a7 (cs.length + 1) c7, rfl, by rw [List.length_append, List.length_singleton]; omega, hg4, k04, k14, k24, hO4, hN⟩
        case measure => simp [strLn]; exact hp5
end Go.Proofs.YtckmebfgianeoaaDoor
