
/-
  Contract of Wrap of package captions.
  Conditions: the line has at most a million and a half bytes.
-/
import Derived.Test.YthadhmhbbfjomaaGreatDoorMathX
import Derived.Test.YthadhmhbbfjomaaGreatDoorWalkWa
import Derived.Test.YthadhmhbbfjomaaGreatDoorWalkCu
import Derived.Lib.OthersKept
namespace Go.Proofs.YthadhmhbbfjomaaGreatDoor
open Go.RowKit Go.Lib
set_option linter.unusedSimpArgs false
set_option linter.unusedVariables false

theorem iter_by (w : World) (k : Nat) (s : ByteArray) (pos pos' : Nat) (hk : w.heap[k]? = some (.stringIter s pos)) : w.grownBy (w.iterAt k s pos') (some k) :=
  ⟨rfl, rfl, rfl, by rw [iterAt_size]; exact Nat.le_refl _, fun j hj hn => iterAt_other w k j s pos' (fun e => hn (by rw [e]))⟩
theorem iter_row {w : World} {k : Nat} {s : ByteArray} {pos : Nat} (hk : w.heap[k]? = some (.stringIter s pos)) : ¬ IsRow w k := fun ⟨c, t, f, h⟩ => by rw [hk] at h; cases h
theorem Wr.iter {w w' : World} {B k2 : Nat} {k : Int} {lv p bv : Value} {ls : List ByteArray} {cur : List UInt8} (h : Wr w B k lv p bv ls cur) (hg : w.grownBy w' (some k2)) (hn : ¬ IsRow w k2) : Wr w' B k lv p bv ls cur :=
  ⟨h.blk.grown hg (fun e => hn (by injection e with e; rw [e]; exact ⟨_, _, _, h.blk⟩)), World.ownsRow.kept h.lines hg (.inr (fun e => hn (own_isRow h.lines _ e))), h.self, World.ownsRowF.kept h.own hg (.inr (fun e => hn (ownF_isRow h.own _ e)))⟩
theorem By.iter {S : Nat → Prop} {w w' : World} (h : By S w w') {k : Nat} {s : ByteArray} {pos : Nat} (hk : w.heap[k]? = some (.stringIter s pos)) : w'.heap[k]? = some (.stringIter s pos) := by
  rw [h.other (Array.getElem?_eq_some_iff.1 hk).1 (iter_row hk)]
  exact hk

set_option maxRecDepth 20000 in
set_option maxHeartbeats 8000000 in
theorem wrap_main (s : ByteArray) (k : Nat) (w : World) (hk : 1 ≤ k) (hks : k < s.size) (hs : s.size ≤ 1500000) :
    Calls Tryz.prog 22 #[.string s, .int .i64 k] w fun e w' => ∃ v, e = .returned v ∧ Gr w w' ∧ StrsR w' v (wrapM k s.data.toList) := by
  have hmf := hmf_any Tryz.prog
  have q1 : decide ((k : Int) < 1) = false := decide_eq_false (by omega)
  have q2 : decide (s.size ≤ k) = false := decide_eq_false (by omega)
  obtain ⟨FIN, hF⟩ : ∃ FIN, (wordsG [] s.data.toList).foldl (addW k) ([], []) = FIN := ⟨_, rfl⟩
  have hW : wrapM k s.data.toList = endL FIN.1 FIN.2 := by unfold wrapM; rw [hF]
  rw [hW]
  clear hW
  have HA : Hid (∀ (lv p bf : Value) (ls : List ByteArray) (cur : List UInt8) (t : ByteArray) (V : World), Wr V (w.heap.size + 1) k lv p bf ls cur → ls.length + t.size ≤ 3999990 → cur.length ≤ 4000000 → Calls Tryz.prog 44 #[.pointer (some ⟨w.heap.size + 1, 0, none⟩), .string t] V fun e w' => ∃ lv' p' bv', e = .returned (.tuple #[]) ∧ Wr w' (w.heap.size + 1) k lv' p' bv' (addW k (ls, cur) t.data.toList).1 (addW k (ls, cur) t.data.toList).2 ∧ By (fun j => w.heap.size + 1 ≤ j) V w') :=
    fun lv p bf ls cur t V h1 h2 h3 => add_any _ k lv p bf ls cur t V h1 hk (by omega) h2 h3
  have HE : Hid (∀ (lv p bf : Value) (ls : List ByteArray) (cur : List UInt8) (V : World), Wr V (w.heap.size + 1) k lv p bf ls cur → ls.length ≤ 4000000 → cur.length ≤ 140737488355328 → Calls Tryz.prog 45 #[.pointer (some ⟨w.heap.size + 1, 0, none⟩)] V fun e w' => ∃ lv' p' bv', e = .returned (.tuple #[]) ∧ Wr w' (w.heap.size + 1) k lv' p' bv' (endL ls cur) [] ∧ By (fun j => w.heap.size + 1 ≤ j) V w') :=
    fun lv p bf ls cur V h1 h2 h3 => end_any _ k lv p bf ls cur V h1 h2 h3
  have hF := Lib.hid hF
  go_enter_defers Tryz.func22, Tryz.ntmps22
  go_wp2
  go_loopw [6] (fun bg wr => ∃ (pos : Nat) (c : List UInt8) (lv p bf : Value) (ls : List ByteArray) (cur : List UInt8), pos ≤ s.size ∧ ((bg = .int .i64 (-1) ∧ c = []) ∨ ∃ b : Nat, bg = .int .i64 b ∧ b < pos ∧ c = (s.data.toList.drop b).take (pos - b)) ∧ Wr wr (w.heap.size + 1) k lv p bf ls cur ∧ wr.heap[w.heap.size + 2]? = some (.stringIter s pos) ∧ Blk wr w.heap.size 44 [.slice none 0 0] ∧ Gr w wr ∧
    Hid ((wordsG c (s.data.toList.drop pos)).foldl (addW k) (ls, cur) = FIN ∧ ls.length + cur.length + 2 * (c.length + (s.size - pos)) ≤ 2 * s.size)) (fun _ wr => s.size - wr.iterPos (w.heap.size + 2))
  case atStart =>
    have hg0 : Gr ((w.alloc (.cells #[.slice none 0 0] 44)).alloc (.cells #[.int .i64 k, .slice none 0 0, .pointer none, .slice none 0 0] 104)) ((((w.alloc (.cells #[.slice none 0 0] 44)).alloc (.cells #[.int .i64 k, .slice none 0 0, .pointer none, .slice none 0 0] 104)).iter s 0)) := (Gr.refl _).alloc (.stringIter s 0)
    have hb1 : Blk ((w.alloc (.cells #[.slice none 0 0] 44)).alloc (.cells #[.int .i64 k, .slice none 0 0, .pointer none, .slice none 0 0] 104)) (w.heap.size + 1) 104 [.int .i64 k, .slice none 0 0, .pointer none, .slice none 0 0] := by
      have := Blk.new (w.alloc (.cells #[.slice none 0 0] 44)) [.int .i64 k, .slice none 0 0, .pointer none, .slice none 0 0] 104
      simpa using this
    have hb0 : Blk (w.alloc (.cells #[.slice none 0 0] 44)) w.heap.size 44 [.slice none 0 0] := Blk.new w [.slice none 0 0] 44
    refine ⟨0, [], .slice none 0 0, .pointer none, .slice none 0 0, [], [], Nat.zero_le _, .inl ⟨rfl, rfl⟩, ⟨hb1.gr hg0, StrsO.nil _ _ _, .inl rfl, World.ownsRowF_nil _ _ _ _⟩, ?_, (hb0.gr ((Gr.refl _).alloc _)).gr hg0, (((Gr.refl w).alloc _).alloc _).trans hg0, Lib.hid ⟨hF.out, by simp⟩⟩
    have := World.iter_heap ((w.alloc (.cells #[.slice none 0 0] 44)).alloc (.cells #[.int .i64 k, .slice none 0 0, .pointer none, .slice none 0 0] 104)) s 0
    simpa using this
  case round =>
    obtain ⟨pos, c, lv, p, bf, ls, cur, hpos, hbg, hw, hit, hbR, hg, hst⟩ := hrel
    have hIl : w.heap.size + 2 < wr.heap.size := (Array.getElem?_eq_some_iff.1 hit).1
    have hnr := iter_row hit
    by_cases hp : pos < s.size
    · have hnx : ∀ ty, (Instr.next (.pointer (some ⟨w.heap.size + 2, 0, none⟩)) true ty).run Tryz.prog wr = _ := fun ty => Lib.run_next_any_at wr (w.heap.size + 2) s pos ty hit hp
      have hrb := rune_bytes s pos hp
      have hit2 := Lib.iterAt_heap wr (w.heap.size + 2) s pos (pos + (Utf8.decode s pos).2) hit
      have hby := iter_by wr (w.heap.size + 2) s pos (pos + (Utf8.decode s pos).2) hit
      have hdr := ba_drop s pos hp
      generalize (Utf8.decode s pos).2 = wd at hnx hrb hit2 hby
      generalize (Utf8.decode s pos).1 = r at hnx hrb
      generalize wr.iterAt (w.heap.size + 2) s (pos + wd) = V at hnx hit2 hby
      have hw2 := hw.iter hby hnr
      have hbR2 := hbR.grown hby (fun e => by injection e with e; omega)
      have hg2 : Gr w V := hg.grown hby (fun j hj => by injection hj with hj; omega)
      have hw2 := Lib.hid hw2
      obtain ⟨hw1, hwle, hr⟩ := hrb
      have hmeas : wr.iterPos (w.heap.size + 2) = pos := by simp [World.iterPos, hit]
      have hmeas := Lib.hid hmeas
      clear hw hby hbR hit hnr
      rcases hr with ⟨rfl, rfl, hbl⟩ | ⟨hr, hbl⟩
      · have r1 : (((32 : Nat) : Int) == 32) = true := by decide
        rw [hbl] at hdr
        rcases hbg with ⟨rfl, rfl⟩ | ⟨b, rfl, hb1, hb2⟩
        · have hst2 : Hid ((wordsG [] (s.data.toList.drop (pos + 1))).foldl (addW k) (ls, cur) = FIN ∧ ls.length + cur.length + 2 * (([] : List UInt8).length + (s.size - (pos + 1))) ≤ 2 * s.size) := by
            have h1 := hst.out
            rw [hdr, wordsG_blank, if_pos rfl] at h1
            refine Lib.hid ⟨h1.1, ?_⟩
            have := h1.2
            simp only [List.length_nil] at *
            omega
          clear hst hdr
          go_wp2
          go_roundw
          case rel => exact ⟨pos + 1, [], lv, p, bf, ls, cur, by omega, .inl ⟨rfl, rfl⟩, hw2.out, hit2, hbR2, hg2, hst2⟩
          case measure => rw [hmeas.out]; simp only [World.iterPos, hit2]; omega
        · have hc0 : c ≠ [] := fun e => by
            rw [e] at hb2
            have := congrArg List.length hb2
            simp only [List.length_nil, List.length_take, List.length_drop, ba_len] at this
            omega
          have hcl : c.length = pos - b := by rw [hb2, List.length_take, List.length_drop, ba_len]; omega
          have hex : (s.extract b pos).data.toList = c := by rw [ba_ex, hb2]
          have hexs : (s.extract b pos).size = c.length := by rw [← ba_len, hex]
          have hst1 := hst.out
          rw [hdr, wordsG_blank, if_neg hc0, List.foldl_cons] at hst1
          have hal := addW_len k (by omega) ls cur c hc0
          have hbd := hst1.2
          have hst2 : Hid ((wordsG [] (s.data.toList.drop (pos + 1))).foldl (addW k) ((addW k (ls, cur) c).1, (addW k (ls, cur) c).2) = FIN ∧ (addW k (ls, cur) c).1.length + (addW k (ls, cur) c).2.length + 2 * (([] : List UInt8).length + (s.size - (pos + 1))) ≤ 2 * s.size) := by
            refine Lib.hid ⟨hst1.1, ?_⟩
            simp only [List.length_nil]
            omega
          have hge0 : decide (0 ≤ (b : Int)) = true := decide_eq_true (by omega)
          have hlt0 : decide ((b : Int) < 0) = false := decide_eq_false (by omega)
          have hex := Lib.hid hex
          clear hst hst1 hdr hb2
          go_wp2_with (go_at_call 44; (with_reducible refine (HA.out lv p bf ls cur (s.extract b pos) V hw2.out ?_ ?_).mono ?_); (· omega); (· omega); rintro e w2 ⟨lv2, p2, b2, rfl, hw3, hy3⟩)
          rw [hex.out] at hw3
          have hbR3 := hy3.blk hbR2 (by omega)
          have hit3 := hy3.iter hit2
          have hg3 : Gr w w2 := ((By.of_gr (S := fun j => w.heap.size + 1 ≤ j) hg2).trans hy3 (fun _ _ h => h)).gr (fun j hj => by omega)
          go_roundw
          case rel => exact ⟨pos + 1, [], lv2, p2, b2, _, _, by omega, .inl ⟨rfl, rfl⟩, hw3, hit3, hbR3, hg3, hst2⟩
          case measure => rw [hmeas.out]; simp only [World.iterPos, hit3]; omega
      · have r1 : ((r : Int) == 32) = false := by simp; omega
        have r2 : ((r : Int) != 32) = true := by simp; omega
        have hsp : s.data.toList.drop pos = (s.data.toList.drop pos).take wd ++ s.data.toList.drop (pos + wd) := by
          rw [← List.drop_drop, List.take_append_drop]
        have hyl : ((s.data.toList.drop pos).take wd).length = wd := by rw [List.length_take, List.length_drop, ba_len]; omega
        have hst1 := hst.out
        rw [hsp, wordsG_more _ _ _ hbl] at hst1
        have hbd := hst1.2
        have hst2 : Hid ((wordsG (c ++ (s.data.toList.drop pos).take wd) (s.data.toList.drop (pos + wd))).foldl (addW k) (ls, cur) = FIN ∧ ls.length + cur.length + 2 * ((c ++ (s.data.toList.drop pos).take wd).length + (s.size - (pos + wd))) ≤ 2 * s.size) := by
          refine Lib.hid ⟨hst1.1, ?_⟩
          rw [List.length_append, hyl]
          omega
        rcases hbg with ⟨rfl, rfl⟩ | ⟨b, rfl, hb1, hb2⟩
        · clear hst hst1 hdr hsp hbl
          go_wp2
          go_roundw
          case rel => exact ⟨pos + wd, _, lv, p, bf, ls, cur, hwle, .inr ⟨pos, rfl, by omega, by rw [List.nil_append, show pos + wd - pos = wd by omega]⟩, hw2.out, hit2, hbR2, hg2, hst2⟩
          case measure => rw [hmeas.out]; simp only [World.iterPos, hit2]; omega
        · have hge0 : decide (0 ≤ (b : Int)) = true := decide_eq_true (by omega)
          have hlt0 : decide ((b : Int) < 0) = false := decide_eq_false (by omega)
          have hc2 : c ++ (s.data.toList.drop pos).take wd = (s.data.toList.drop b).take (pos + wd - b) := by
            rw [hb2, show pos + wd - b = (pos - b) + wd by omega, List.take_add, List.drop_drop, show b + (pos - b) = pos by omega]
          have hc2 := Lib.hid hc2
          clear hst hst1 hdr hsp hbl hb2
          go_wp2
          go_roundw
          case rel => exact ⟨pos + wd, _, lv, p, bf, ls, cur, hwle, .inr ⟨b, rfl, by omega, hc2.out⟩, hw2.out, hit2, hbR2, hg2, hst2⟩
          case measure => rw [hmeas.out]; simp only [World.iterPos, hit2]; omega
    · have hnx : ∀ ty, (Instr.next (.pointer (some ⟨w.heap.size + 2, 0, none⟩)) true ty).run Tryz.prog wr = _ := fun ty => Lib.run_next_end_at wr (w.heap.size + 2) s pos ty hit hp
      obtain rfl : pos = s.size := by omega
      have hst1 := hst.out
      rw [ba_drop_end s s.size (Nat.le_refl _), wordsG_nil] at hst1
      rcases hbg with ⟨rfl, rfl⟩ | ⟨b, rfl, hb1, hb2⟩
      · rw [if_pos rfl] at hst1
        have hfin := hst1.1
        have hbd := hst1.2
        simp only [List.foldl_nil] at hfin
        obtain ⟨F1, F2⟩ := FIN
        injection hfin with hf1 hf2
        subst hf1
        subst hf2
        have hw := Lib.hid hw
        clear hst hst1 hF
        go_wp2_with (go_at_call 45; (with_reducible refine (HE.out lv p bf ls cur wr hw.out ?_ ?_).mono ?_); (· omega); (· omega); rintro e w4 ⟨lv4, p4, b4, rfl, hw4, hy4⟩; have hbR4 := hy4.blk hbR (by omega); have hg4 : Gr w w4 := ((By.of_gr (S := fun j => w.heap.size + 1 ≤ j) hg).trans hy4 (fun _ _ h => h)).gr (fun j hj => by omega); obtain ⟨a4, c4, rfl⟩ := own_shape hw4.lines; have hw4' := Lib.hid hw4; have k4 := hw4.blk.cell 1; have kR := hbR4.cell 0; have fR := hbR4.frozen 0; (simp at k4 kR); clear hw4)
        refine leaves_cons (f := 43) (args := #[.pointer (some ⟨w.heap.size, 0, none⟩)]) (by simp) (by simp [go_sem]) ?_
        refine (wrapD_idle _ _).mono ?_
        rintro e u' w'' ⟨rfl, rfl, rfl⟩
        have hge := own_ge hw4'.out.lines
        have hrd : StrsR (w4.setCell ⟨w.heap.size, 0, none⟩ (.slice a4 (endL ls cur).length c4)) (.slice a4 (endL ls cur).length c4) (endL ls cur) :=
          Rd.setCell _ _ (fun h => by have : w.heap.size + 1 + 1 ≤ w.heap.size := hge _ h; omega) (Rd.own hw4'.out.lines)
        simp [Leaves, settle, results, Tryz.results22, go_sem, kR]
        exact ⟨(by repeat (first | with_reducible exact Gr.refl _ | with_reducible assumption | refine Gr.setCell ?_ (by first | omega | (simp; done) | (simp; omega)) _ | refine Gr.alloc ?_ _ | refine Gr.drew ?_ | refine Gr.drewN ?_ _ | refine Gr.trans ?_ (by with_reducible assumption))), hrd⟩
      · have hc0 : c ≠ [] := fun e => by
          rw [e] at hb2
          have := congrArg List.length hb2
          simp only [List.length_nil, List.length_take, List.length_drop, ba_len] at this
          omega
        have hcl : c.length = s.size - b := by rw [hb2, List.length_take, List.length_drop, ba_len]; omega
        have hex : (s.extract b s.size).data.toList = c := by rw [ba_ex, hb2]
        have hexs : (s.extract b s.size).size = c.length := by rw [← ba_len, hex]
        rw [if_neg hc0] at hst1
        have hfin := hst1.1
        have hbd := hst1.2
        simp only [List.foldl_cons, List.foldl_nil] at hfin
        have hal := addW_len k (by omega) ls cur c hc0
        obtain ⟨F1, F2⟩ := FIN
        have hf1 : (addW k (ls, cur) c).1 = F1 := by rw [hfin]
        have hf2 : (addW k (ls, cur) c).2 = F2 := by rw [hfin]
        rw [hf1, hf2] at hal
        have hge0 : decide (0 ≤ (b : Int)) = true := decide_eq_true (by omega)
        have hw := Lib.hid hw
        have hex := Lib.hid hex
        have hf1 := Lib.hid hf1
        have hf2 := Lib.hid hf2
        clear hst hst1 hF hfin hb2
        go_wp2_with (first
          | (go_at_call 44; (with_reducible refine (HA.out lv p bf ls cur (s.extract b s.size) wr hw.out ?_ ?_).mono ?_); (· omega); (· omega); rintro e w2 ⟨lv2, p2, b2, rfl, hw3, hy3⟩; rw [hex.out, hf1.out, hf2.out] at hw3; have hbR3 := hy3.blk hbR (by omega); have hg3 : Gr w w2 := ((By.of_gr (S := fun j => w.heap.size + 1 ≤ j) hg).trans hy3 (fun _ _ h => h)).gr (fun j hj => by omega))
          | (go_at_call 45; (with_reducible refine (HE.out lv2 p2 b2 F1 F2 w2 hw3 ?_ ?_).mono ?_); (· omega); (· omega); rintro e w4 ⟨lv4, p4, b4, rfl, hw4, hy4⟩; have hbR4 := hy4.blk hbR3 (by omega); have hg4 : Gr w w4 := ((By.of_gr (S := fun j => w.heap.size + 1 ≤ j) hg3).trans hy4 (fun _ _ h => h)).gr (fun j hj => by omega); obtain ⟨a4, c4, rfl⟩ := own_shape hw4.lines; have hw4' := Lib.hid hw4; have k4 := hw4.blk.cell 1; have kR := hbR4.cell 0; have fR := hbR4.frozen 0; (simp at k4 kR); clear hw4))
        refine leaves_cons (f := 43) (args := #[.pointer (some ⟨w.heap.size, 0, none⟩)]) (by simp) (by simp [go_sem]) ?_
        refine (wrapD_idle _ _).mono ?_
        rintro e u' w'' ⟨rfl, rfl, rfl⟩
        have hge := own_ge hw4'.out.lines
        have hrd : StrsR (w4.setCell ⟨w.heap.size, 0, none⟩ (.slice a4 (endL F1 F2).length c4)) (.slice a4 (endL F1 F2).length c4) (endL F1 F2) :=
          Rd.setCell _ _ (fun h => by have : w.heap.size + 1 + 1 ≤ w.heap.size := hge _ h; omega) (Rd.own hw4'.out.lines)
        simp [Leaves, settle, results, Tryz.results22, go_sem, kR]
        exact ⟨(by repeat (first | with_reducible exact Gr.refl _ | with_reducible assumption | refine Gr.setCell ?_ (by first | omega | (simp; done) | (simp; omega)) _ | refine Gr.alloc ?_ _ | refine Gr.drew ?_ | refine Gr.drewN ?_ _ | refine Gr.trans ?_ (by with_reducible assumption))), hrd⟩

theorem wrap_nil (s : ByteArray) (k : Int) (w : World) (hk : k < 1) :
    Calls Tryz.prog 22 #[.string s, .int .i64 k] w fun e w' => ∃ v, e = .returned v ∧ Gr w w' ∧ StrsR w' v [] := by
  have hmf := hmf_any Tryz.prog
  have q1 : decide (k < 1) = true := decide_eq_true hk
  go_enter_defers Tryz.func22, Tryz.ntmps22
  go_wp2
  refine leaves_cons (f := 43) (args := #[.pointer (some ⟨w.heap.size, 0, none⟩)]) (by simp) (by simp [go_sem]) ?_
  refine (wrapD_idle _ _).mono ?_
  rintro e u' w'' ⟨rfl, rfl, rfl⟩
  simp [Leaves, settle, results, Tryz.results22, go_sem]
  exact ⟨(by repeat (first | with_reducible exact Gr.refl _ | with_reducible assumption | refine Gr.setCell ?_ (by first | omega | (simp; done) | (simp; omega)) _ | refine Gr.alloc ?_ _ | refine Gr.drew ?_ | refine Gr.drewN ?_ _ | refine Gr.trans ?_ (by with_reducible assumption))), StrsR.nil _⟩

theorem wrap_one (s : ByteArray) (k : Nat) (w : World) (hk : 1 ≤ k) (hk2 : (k : Int) ≤ 9223372036854775807) (hs : s.size ≤ k) (hs2 : s.size ≤ 140737488355328) :
    Calls Tryz.prog 22 #[.string s, .int .i64 k] w fun e w' => ∃ v, e = .returned v ∧ Gr w w' ∧ StrsR w' v [s] := by
  have hmf := hmf_any Tryz.prog
  have q1 : decide ((k : Int) < 1) = false := decide_eq_false (by omega)
  have q2 : decide (s.size ≤ k) = true := decide_eq_true (by omega)
  go_enter_defers Tryz.func22, Tryz.ntmps22
  go_wp2
  refine leaves_cons (f := 43) (args := #[.pointer (some ⟨w.heap.size, 0, none⟩)]) (by simp) (by simp [go_sem]) ?_
  refine (wrapD_idle _ _).mono ?_
  rintro e u' w'' ⟨rfl, rfl, rfl⟩
  simp [Leaves, settle, results, Tryz.results22, go_sem]
  refine ⟨(by repeat (first | with_reducible exact Gr.refl _ | with_reducible assumption | refine Gr.setCell ?_ (by first | omega | (simp; done) | (simp; omega)) _ | refine Gr.alloc ?_ _ | refine Gr.drew ?_ | refine Gr.drewN ?_ _ | refine Gr.trans ?_ (by with_reducible assumption))), ?_⟩
  have := Rd.new (w.alloc (.cells #[.slice (some ⟨w.heap.size + 1, 0, none⟩) 1 1] 44)) #[.string s] 9 1 1 1 rfl
  simp at this
  exact this
theorem wrap_any (s : ByteArray) (k : Int) (w : World) (hk : k ≤ 9223372036854775807) (hs : s.size ≤ 1500000) :
    Calls Tryz.prog 22 #[.string s, .int .i64 k] w fun e w' => ∃ v, e = .returned v ∧ Gr w w' ∧ StrsR w' v (wrapP k s) := by
  unfold wrapP
  by_cases h1 : k < 1
  · rw [if_pos h1]
    exact wrap_nil s k w h1
  · rw [if_neg h1]
    obtain ⟨n, rfl⟩ : ∃ n : Nat, k = n := ⟨k.toNat, by omega⟩
    by_cases h2 : (s.size : Int) ≤ n
    · rw [if_pos h2]
      exact wrap_one s n w (by omega) hk (by omega) (by omega)
    · rw [if_neg h2]
      exact wrap_main s n w (by omega) (by omega) hs
end Go.Proofs.YthadhmhbbfjomaaGreatDoor
