
import Derived.Test.YthadhmhbbfjomaaGreatDoorMem
import Derived.Test.YthadhmhbbfjomaaGreatDoorChecked
import Derived.WalkSpells
import Derived.WalkLawsBesides
import Derived.Lib.UnsafeStr
import Derived.Laws.Externs
import Derived.Test.YthadhmhbbfjomaaGreatDoorKit
import Derived.Test.YthadhmhbbfjomaaGreatDoorWalkCu
/-
  Contracts of the methods of strings.Builder, the builder in whatever place of a block that is known whole.
  Conditions: what is written takes at most 2^47 bytes.
-/
namespace Go.Proofs.YthadhmhbbfjomaaGreatDoor
open Go.RowKit Go.Lib
set_option linter.unusedSimpArgs false
set_option linter.unusedVariables false

theorem infoBld : (Tryz.prog.info? 95).map (·.size) = some 2 := by kernel_rfl
theorem infoByte : (Tryz.prog.info? 5).map (fun i => (i.zero, i.size, i.bytes)) = some (some (.int .u8 0), 1, 1) := by kernel_rfl
/-- a builder may lie in this place of a block of this type -/
def Lies (T : TypeId) (n o : Nat) : Prop := liesAt Tryz.prog Tryz.prog.depth T (n / Tryz.prog.cellsOf T) o 95 1 = true ∧ o + 1 < n
set_option maxRecDepth 100000 in
set_option maxHeartbeats 1000000 in
theorem cc_any (b o : Nat) (T : TypeId) (vs : List Value) (p : Value) (w : World) (hB : Blk w b T vs) (h0 : vs[o]? = some p) (hp : p = .pointer none ∨ p = .pointer (some ⟨b, o, none⟩)) (hl : Lies T vs.length o) :
    Calls Tryz.prog 70 #[.pointer (some ⟨b, o, none⟩)] w fun e w' => e = .returned (.tuple #[]) ∧ Blk w' b T (vs.set o (.pointer (some ⟨b, o, none⟩))) ∧ By (fun k => k = b) w w' := by
  obtain ⟨j, hj, hjs⟩ := Option.map_eq_some_iff.1 infoBld
  have hsh := hB.shape
  have hc := hB.cell o
  rw [h0] at hc
  have hf := hB.frozen o
  rcases hp with rfl | rfl
  · have ha : ∀ w', Blk w' b T vs → Calls Tryz.prog 70 #[.pointer (some ⟨b, o, none⟩)] w fun e w' => e = .returned (.tuple #[]) ∧ w.setCell ⟨b, o, none⟩ (.pointer (some ⟨b, o, none⟩)) = w' := by
      intro _ _
      clear hB h0
      go_enter Tryz.func70, Tryz.ntmps70
      go_wp2
      rw [Lib.run_to_unsafe (e := T) (cells := vs.length) w ⟨b, o, none⟩ Tryz.underlying93 Tryz.underlying155 hj (by rw [hjs]; decide) hsh (by have := hl.2; simp only; omega)]
      simp only [Result.andThen]
      rw [Oper.upon_value]
      go_wp2
      rw [run_callFunc_extern Tryz.func91 (by kernel_rfl) (by kernel_rfl) (by kernel_rfl) (e := Extern.AbiNoEscape.same) (by kernel_rfl)]
      rw [Lib.run_noEscape]
      simp only [Result.andThen]
      rw [Oper.upon_value]
      go_wp2
      rw [Lib.run_from_unsafe (e := T) (cells := vs.length) w ⟨b, o, none⟩ Tryz.underlying155 Tryz.underlying93 hj hsh hl.1]
      simp only [Result.andThen]
      rw [Oper.upon_value]
      go_wp2
      go_end0
      exact ⟨rfl, rfl⟩
    refine (ha w hB).mono ?_
    rintro e w' ⟨rfl, rfl⟩
    exact ⟨rfl, hB.set o _, By.of_set w _ _⟩
  · have hset : vs.set o (.pointer (some ⟨b, o, none⟩)) = vs := by
      obtain ⟨hlt, he⟩ := List.getElem?_eq_some_iff.1 h0
      rw [← he, List.set_getElem_self]
    rw [hset]
    go_enter Tryz.func70, Tryz.ntmps70
    go_wp2
    rw [Lib.run_neq_ptr_same w _ Tryz.underlying93 hj]
    go_wp2
    go_end0
    exact ⟨rfl, hB, By.refl _ _⟩

theorem set_len {vs : List Value} {o : Nat} {u : Value} : (vs.set o u).length = vs.length := List.length_set
theorem byteCells_append (a b : List UInt8) : byteCells (a ++ b) = byteCells a ++ byteCells b := by unfold byteCells; rw [List.map_append]
theorem strCells_eq (s : ByteArray) : strCells s = byteCells s.data.toList := rfl
/-- what a builder is: nil or its own address; bytes in a row that the call owns -/
structure Bu (w : World) (b o : Nat) (T : TypeId) (vs : List Value) (base : Nat) (p v : Value) (l : List UInt8) : Prop where
  blk : Blk w b T vs
  hp : vs[o]? = some p
  hv : vs[o + 1]? = some v
  self : p = .pointer none ∨ p = .pointer (some ⟨b, o, none⟩)
  own : w.ownsRowF base 5 1 v l.length (byteCells l)
  lies : Lies T vs.length o
  ne : T ≠ 5
set_option maxRecDepth 100000 in
set_option maxHeartbeats 2000000 in
theorem ws_any (b o : Nat) (T : TypeId) (vs : List Value) (base : Nat) (p v : Value) (l : List UInt8) (s : ByteArray) (w : World) (h : Bu w b o T vs base p v l) (hlen : l.length + s.size ≤ 140737488355328) (hb : base ≤ w.heap.size) :
    Calls Tryz.prog 40 #[.pointer (some ⟨b, o, none⟩), .string s] w fun e w' => ∃ v', e = .returned (.tuple #[.int .i64 s.size, .nilIface]) ∧
      Bu w' b o T ((vs.set o (.pointer (some ⟨b, o, none⟩))).set (o + 1) v') base (.pointer (some ⟨b, o, none⟩)) v' (l ++ s.data.toList) ∧ By (fun k => k = b ∨ v.ownBlock = some k) w w' := by
  have hCC : Hid (Calls Tryz.prog 70 #[.pointer (some ⟨b, o, none⟩)] w fun e w' => e = .returned (.tuple #[]) ∧ Blk w' b T (vs.set o (.pointer (some ⟨b, o, none⟩))) ∧ By (fun k => k = b) w w') := cc_any b o T vs p w h.blk h.hp h.self h.lies
  obtain ⟨i0, hi, hz0, hz1, hz2⟩ := info_parts infoByte
  obtain ⟨ao, cap, rfl⟩ := ownF_shape h.own
  have hnb : (Value.slice ao l.length cap).ownBlock ≠ some b := h.blk.rowF h.own h.ne
  have h := Lib.hid h
  have key : ∀ w1, Blk w1 b T (vs.set o (.pointer (some ⟨b, o, none⟩))) → By (fun k => k = b) w w1 → w1.ownsRowF base 5 1 (.slice ao l.length cap) l.length (byteCells l) ∧ w1.cell? ⟨b, o + 1, none⟩ = some (.slice ao l.length cap) := fun w1 hB1 hy1 =>
    ⟨World.ownsRowF.kept (row := some b) h.out.own ⟨hy1.1, hy1.2.1, hy1.2.2.1, hy1.size, fun k hk hn => hy1.block hk (fun e => hn (by rw [e]))⟩ (.inr hnb), by rw [hB1.cell, List.getElem?_set_ne (by omega)]; exact h.out.hv⟩
  have key := Lib.hid key
  have hol : o + 1 < vs.length := h.out.lies.2
  go_enter Tryz.func40, Tryz.ntmps40
  go_wp2_with (first
    | (go_at_call 70; (with_reducible refine hCC.out.mono ?_); rintro e w1 ⟨rfl, hB1, hy1⟩; obtain ⟨hown, c1⟩ := key.out _ hB1 hy1)
    | (at_builtin; refine Lib.wpList_append_own_stringF _ rfl _ _ 23 9 rfl base 5 i0 (by kernel_rfl) (by kernel_rfl) hi hz0 hz1 hz2 _ _ _ rfl hown s rfl ?_ ?_ ?_ ?_; (· unfold maxLen; omega); (· omega); (· have := hy1.size; omega); intro v' w2 hown' hgrow hni; have hB2 := hB1.grown hgrow hnb; have d1 := hB2.cell (o + 1); (rw [List.getElem?_set_ne (by omega)] at d1); have f1 := hB2.frozen (o + 1); (rw [h.out.hv] at d1); obtain ⟨ao2, cap2, rfl⟩ := ownF_shape hown'))
  go_ret2
  have hnb2 := hB2.rowF hown' h.out.ne
  refine ⟨_, rfl, ⟨hB2.set (o + 1) _, ?_, ?_, .inr rfl, ?_, ?_, h.out.ne⟩, ?_⟩
  · rw [List.getElem?_set_ne (by omega), List.getElem?_set_self (by omega)]
  · rw [List.getElem?_set_self (by rw [List.length_set]; omega)]
  · have := World.ownsRowF.kept hown' (grown_setCell w2 ⟨b, o + 1, none⟩ (.slice ao2 (l.length + s.size) cap2)) (.inr hnb2)
    rw [byteCells_append, ← strCells_eq, List.length_append, ba_len]
    exact this
  · rw [List.length_set, List.length_set]; exact h.out.lies
  · refine By.trans (By.mono hy1 (fun k _ hk => .inl hk)) (S' := fun k => k = b ∨ (Value.slice ao l.length cap).ownBlock = some k) (By.trans (By.of_grown (S := fun k => k = b ∨ (Value.slice ao l.length cap).ownBlock = some k) hgrow (ownF_isRow hown) (fun k hk => .inr hk)) (By.of_set w2 ⟨b, o + 1, none⟩ _) (fun k _ hk => .inl hk)) (fun k _ hk => hk)

set_option maxRecDepth 100000 in
set_option maxHeartbeats 1000000 in
theorem len_any (b o : Nat) (T : TypeId) (vs : List Value) (base : Nat) (p v : Value) (l : List UInt8) (w : World) (h : Bu w b o T vs base p v l) :
    Calls Tryz.prog 72 #[.pointer (some ⟨b, o, none⟩)] w fun e w' => e = .returned (.int .i64 l.length) ∧ w = w' := by
  obtain ⟨ao, cap, rfl⟩ := ownF_shape h.own
  have c1 := h.blk.cell (o + 1)
  rw [h.hv] at c1
  clear h
  go_enter Tryz.func72, Tryz.ntmps72
  go_wp2
  go_ret
  exact ⟨rfl, rfl⟩
set_option maxRecDepth 100000 in
set_option maxHeartbeats 1000000 in
theorem reset_any (b o : Nat) (T : TypeId) (vs : List Value) (base : Nat) (p v : Value) (l : List UInt8) (w : World) (h : Bu w b o T vs base p v l) :
    Calls Tryz.prog 73 #[.pointer (some ⟨b, o, none⟩)] w fun e w' => e = .returned (.tuple #[]) ∧
      Bu w' b o T ((vs.set o (.pointer none)).set (o + 1) (.slice none 0 0)) base (.pointer none) (.slice none 0 0) [] ∧ By (fun k => k = b) w w' := by
  have hol := h.lies.2
  have c0 := h.blk.cell o
  rw [h.hp] at c0
  have c1 := h.blk.cell (o + 1)
  rw [h.hv] at c1
  have f0 := h.blk.frozen o
  have f1 := h.blk.frozen (o + 1)
  have h := Lib.hid h
  go_enter Tryz.func73, Tryz.ntmps73
  go_wp2
  go_end0
  refine ⟨rfl, ⟨(h.out.blk.set o _).set (o + 1) _, ?_, ?_, .inl rfl, World.ownsRowF_nil _ _ _ _, ?_, h.out.ne⟩, ?_⟩
  · rw [List.getElem?_set_ne (by omega), List.getElem?_set_self (by omega)]
  · rw [List.getElem?_set_self (by rw [List.length_set]; omega)]
  · rw [List.length_set, List.length_set]; exact h.out.lies
  · exact By.trans (By.of_set w ⟨b, o, none⟩ _) (By.of_set _ ⟨b, o + 1, none⟩ _) (fun k _ hk => hk)

theorem own_froze {w : World} {base n g cap : Nat} {e : TypeId} {xs : List Value} (h : w.ownsRowF base e 1 (.slice (some ⟨g, 0, none⟩) n cap) n xs) : (w.freeze ⟨g, 0, none⟩ n).ownsRowF base e 1 (.slice (some ⟨g, 0, none⟩) n cap) n xs := by
  unfold World.freeze
  split
  · exact h
  · rename_i hn0
    refine ⟨h.1, ?_⟩
    rcases h.2 with ⟨hv, _⟩ | ⟨g', cap', cur, fz, hv, hbg, hg, hfz, rest⟩
    · cases hv
    · injection hv with ha _ hcap
      injection ha with ha
      injection ha with hgg _ _
      subst hgg
      subst hcap
      obtain ⟨lo, hi⟩ := fz
      refine .inr ⟨g, cap, cur, (if lo == hi then (0, 0 + n) else (min lo 0, max hi (0 + n))), rfl, hbg, ?_, ?_, rest⟩
      · simp only [Array.getElem?_modify]
        rw [if_pos trivial, hg]
        rfl
      · simp only at hfz
        split
        · simp
        · simp; omega
theorem by_froze (w : World) (g n cap k : Nat) : By (fun k => (Value.slice (some ⟨g, 0, none⟩) n cap).ownBlock = some k) w (w.drew.freeze ⟨g, 0, none⟩ k) := by
  unfold World.freeze
  split
  · exact By.of_gr (Gr.refl w).drew
  · have key : ∀ j, (g ≠ j ∨ ¬ IsRow w j) → ((w.drew.heap.modify g fun | .cells c elem (lo, hi) => .cells c elem (if lo == hi then (0, 0 + k) else (min lo 0, max hi (0 + k))) | o => o)[j]?) = w.heap[j]? := fun j hj => by
      simp only [Array.getElem?_modify]
      by_cases hg : g = j
      · rw [if_pos hg]
        rcases hj with hj | hj
        · exact absurd hg hj
        · show Option.map _ (w.heap[j]?) = w.heap[j]?
          cases ho : w.heap[j]? with
          | none => rfl
          | some o =>
            cases o with
            | cells c t f => exact absurd ⟨c, t, f, ho⟩ hj
            | _ => rfl
      · rw [if_neg hg]
        rfl
    exact ⟨rfl, rfl, rfl, by simp, fun j hj hn => key j (.inl (fun e => hn (by simp [Value.ownBlock, e]))), fun j hj hn => key j (.inr hn)⟩
set_option maxRecDepth 100000 in
set_option maxHeartbeats 1000000 in
theorem str_any (b o : Nat) (T : TypeId) (vs : List Value) (base : Nat) (p v : Value) (l : List UInt8) (w : World) (h : Bu w b o T vs base p v l) (h0 : l ≠ []) :
    Calls Tryz.prog 42 #[.pointer (some ⟨b, o, none⟩)] w fun e w' => e = .returned (.string ⟨l.toArray⟩) ∧ Bu w' b o T vs base p v l ∧ By (fun k => v.ownBlock = some k) w w' := by
  have hl0 : l.length ≠ 0 := by simpa using h0
  obtain ⟨g, cap, cur, fz, rfl, hbg, hg, hfz, hnc, hcm, hcs, htake⟩ : ∃ g cap cur fz, v = .slice (some ⟨g, 0, none⟩) l.length cap ∧ base ≤ g ∧ w.heap[g]? = some (.cells cur 5 fz) ∧ fz.2 ≤ l.length * 1 ∧ l.length ≤ cap ∧ cap ≤ maxLen ∧ cur.size = cap * 1 ∧ cur.toList.take (l.length * 1) = byteCells l := by
    rcases h.own.2 with ⟨_, hz⟩ | ⟨g, cap, cur, fz, hv, r⟩
    · exact absurd hz hl0
    · exact ⟨g, cap, cur, fz, hv, r⟩
  have c1 : w.drew.cell? ⟨b, o + 1, none⟩ = some (.slice (some ⟨g, 0, none⟩) l.length cap) := (h.blk.cell (o + 1)).trans h.hv
  have hSD : (Builtin.unsafeSliceData_ #[23] 136 #[.slice (some ⟨g, 0, none⟩) l.length cap]).run Tryz.prog w.drew = .ok (.pointer (some ⟨g, 0, none⟩)) w.drew :=
    Lib.run_unsafeSliceData_row _ _ _ _ _ _ (by omega)
  have hUS : (Builtin.unsafeString_ #[136, 3] 9 #[.pointer (some ⟨g, 0, none⟩), .int .i64 l.length]).run Tryz.prog w.drew = .ok (.string ⟨l.toArray⟩) (w.drew.freeze ⟨g, 0, none⟩ l.length) := by
    refine Lib.run_unsafeString_row w.drew 136 3 9 5 (by kernel_rfl) (by kernel_rfl) g cur.size (by have hg' : w.drew.heap[g]? = some (.cells cur 5 fz) := hg; simp [World.shape?, hg']) l h0 (by omega) (by unfold maxLen at hcm; omega) ?_
    intro j x hx
    have := h.own.cells (g := g) rfl j (.int .u8 x.toNat) (by simp [Lib.byteCells, hx])
    exact this
  have hnb := h.blk.rowF h.own h.ne
  have hfo := own_froze (w := w.drew) h.own
  have hby := by_froze w g l.length cap l.length
  have h := Lib.hid h
  go_enter Tryz.func42, Tryz.ntmps42
  go_wp2
  go_region
  all_goals go_wp2
  all_goals (go_ret; exact ⟨rfl, ⟨hby.blk h.out.blk (fun e => hnb e), h.out.hp, h.out.hv, h.out.self, hfo, h.out.lies, h.out.ne⟩, hby⟩)
end Go.Proofs.YthadhmhbbfjomaaGreatDoor

/-
  A strings.Builder of the call's own: writing, reading.
  Conditions: what is written takes at most 2^47 bytes.
-/
namespace Go.Proofs.YthadhmhbbfjomaaGreatDoor
open Go.RowKit Go.Lib
set_option linter.unusedSimpArgs false
set_option linter.unusedVariables false

/-- block B is a builder with the bytes l -/
def Lb (w : World) (B : Nat) (l : List UInt8) : Prop := ∃ p v, Bu w B 0 95 [p, v] (B + 1) p v l ∧ (l = [] → v = .slice none 0 0)
/-- what a write may turn -/
def Wb (w : World) (B k : Nat) : Prop := k = B ∨ (B < k ∧ ∃ c f, w.heap[k]? = some (.cells c 5 f))
theorem liesB : Lies 95 2 0 := ⟨by kernel_rfl, by decide⟩
theorem Lb.new (w : World) : Lb (w.alloc (.cells #[.pointer none, .slice none 0 0] 95)) w.heap.size [] :=
  ⟨.pointer none, .slice none 0 0, ⟨Blk.new w [.pointer none, .slice none 0 0] _, rfl, rfl, .inl rfl, World.ownsRowF_nil _ _ _ _, liesB, by decide⟩, fun _ => rfl⟩
theorem Lb.lt {w : World} {B : Nat} {l : List UInt8} (h : Lb w B l) : B < w.heap.size := by
  obtain ⟨p, v, h, _⟩ := h
  exact h.blk.lt
theorem Lb.gr {w w' : World} {B : Nat} {l : List UInt8} (h : Lb w B l) (hg : Gr w w') : Lb w' B l := by
  obtain ⟨p, v, h, h2⟩ := h
  exact ⟨p, v, ⟨h.blk.gr hg, h.hp, h.hv, h.self, World.ownsRowF.kept h.own hg.by0 (Classical.em _), h.lies, h.ne⟩, h2⟩
theorem ownF_kind {w : World} {base n size : Nat} {e : TypeId} {v : Value} {xs : List Value} (h : w.ownsRowF base e size v n xs) : ∀ k, v.ownBlock = some k → ∃ c f, w.heap[k]? = some (.cells c e f) := fun k hk => by
  rcases h.2 with ⟨rfl, rfl⟩ | ⟨g, cap, cur, fz, rfl, _, hg, _⟩
  · simp [Value.ownBlock] at hk
  · have : g = k := by simpa [Value.ownBlock] using hk
    subst this
    exact ⟨_, _, hg⟩
theorem Lb.write (B : Nat) (l : List UInt8) (s : ByteArray) (w : World) (h : Lb w B l) (hlen : l.length + s.size ≤ 140737488355328) (hs : s.size ≠ 0) :
    Calls Tryz.prog 40 #[.pointer (some ⟨B, 0, none⟩), .string s] w fun e w' => e = .returned (.tuple #[.int .i64 s.size, .nilIface]) ∧ Lb w' B (l ++ s.data.toList) ∧ By (Wb w B) w w' := by
  obtain ⟨p, v, h, _⟩ := h
  have hk := ownF_kind h.own
  have hge := ownF_ge h.own
  refine (ws_any B 0 _ _ (B + 1) p v l s w h hlen (by have := h.blk.lt; omega)).mono ?_
  rintro e w' ⟨v', rfl, hU, hy⟩
  refine ⟨rfl, ⟨_, v', hU, fun e => ?_⟩, hy.mono (fun k _ hk2 => ?_)⟩
  · have := congrArg List.length e
    rw [List.length_append, ba_len] at this
    simp only [List.length_nil] at this
    omega
  · rcases hk2 with hk2 | hk2
    · exact .inl hk2
    · exact .inr ⟨by have := hge k hk2; omega, hk k hk2⟩
theorem Lb.read (B : Nat) (l : List UInt8) (w : World) (h : Lb w B l) :
    Calls Tryz.prog 42 #[.pointer (some ⟨B, 0, none⟩)] w fun e w' => e = .returned (.string ⟨l.toArray⟩) ∧ By (Wb w B) w w' := by
  obtain ⟨p, v, h, h2⟩ := h
  by_cases hl : l = []
  · have hv := h2 hl
    subst hl
    subst hv
    have hUS : ∀ w, (Builtin.unsafeString_ #[136, 3] 9 #[.pointer none, .int .i64 0]).run Tryz.prog w = .ok (.string .empty) w := fun w => Lib.run_unsafeString_none w _ _ _ none
    have hSD : ∀ w, (Builtin.unsafeSliceData_ #[23] 136 #[.slice none 0 0]).run Tryz.prog w = .ok (.pointer none) w := fun w => rfl
    have c1 := h.blk.cell 1
    simp at c1
    go_enter Tryz.func42, Tryz.ntmps42
    go_wp2
    go_region
    all_goals go_wp2
    all_goals (go_ret; exact ⟨rfl, By.of_gr (Gr.refl w).drew⟩)
  · have hk := ownF_kind h.own
    have hge := ownF_ge h.own
    refine (str_any B 0 _ _ (B + 1) p v l w h hl).mono ?_
    rintro e w' ⟨rfl, _, hy⟩
    exact ⟨rfl, hy.mono (fun k _ hk2 => .inr ⟨by have := hge k hk2; omega, hk k hk2⟩)⟩
/-- what a write leaves -/
theorem Wb.blk {w w' : World} {B b : Nat} {T : TypeId} {vs : List Value} (hy : By (Wb w B) w w') (h : Blk w b T vs) (hb : b ≠ B) (hT : T ≠ 5) : Blk w' b T vs :=
  hy.blk h (fun hw => by
    rcases hw with hw | ⟨_, c, f, hw⟩
    · exact hb hw
    · unfold Blk at h
      rw [h] at hw
      injection hw with hw
      injection hw with h1 h2 h3
      exact hT h2)
theorem Wb.gr {W w w' : World} {B : Nat} (hy : By (Wb w B) w w') (hg : Gr W w) (hB : W.heap.size ≤ B) : Gr W w' :=
  ((By.of_gr (S := fun k => B ≤ k) hg).trans hy (fun k _ hk => by rcases hk with hk | ⟨hk, _⟩ <;> omega)).gr (fun k hk => by omega)
theorem Wb.same {w w' : World} {B b o : Nat} (hy : By (Wb w B) w w') (hb : b < B) (hbl : b < w.heap.size) : w'.cell? ⟨b, o, none⟩ = w.cell? ⟨b, o, none⟩ :=
  World.cell?_of_block (a := ⟨b, o, none⟩) (hy.block (k := b) hbl (fun hk => by
    have hk : b = B ∨ (B < b ∧ ∃ c f, w.heap[b]? = some (.cells c 5 f)) := hk
    rcases hk with hk | ⟨hk, _⟩ <;> omega))
theorem Wb.cel {w w' : World} {B g : Nat} {vs : List Value} (hy : By (Wb w B) w w') (hb : g < B) (h : Cel w g vs) : Cel w' g vs := by
  have hk := hy.block (k := g) h.1 (fun hk => by
    have hk : g = B ∨ (B < g ∧ ∃ c f, w.heap[g]? = some (.cells c 5 f)) := hk
    rcases hk with hk | ⟨hk, _⟩ <;> omega)
  exact ⟨Nat.lt_of_lt_of_le h.1 hy.size, fun j v hv => ⟨by rw [World.cell?_of_block (a := ⟨g, j, none⟩) hk]; exact (h.2 j v hv).1, by rw [World.frozen?_of_block (a := ⟨g, j, none⟩) hk]; exact (h.2 j v hv).2⟩⟩
end Go.Proofs.YthadhmhbbfjomaaGreatDoor

/-
  Contract of the wrapper's end.
  Conditions: the lines are at most four million.
-/
namespace Go.Proofs.YthadhmhbbfjomaaGreatDoor
open Go.RowKit Go.Lib
set_option linter.unusedSimpArgs false
set_option linter.unusedVariables false

/-- block B is a wrapper: its width, its lines, the line under making -/
structure Wr (w : World) (B : Nat) (k : Int) (lv p bv : Value) (ls : List ByteArray) (cur : List UInt8) : Prop where
  blk : Blk w B 104 [.int .i64 k, lv, p, bv]
  lines : StrsO (B + 1) 9 w lv ls
  self : p = .pointer none ∨ p = .pointer (some ⟨B, 2, none⟩)
  own : w.ownsRowF (B + 1) 5 1 bv cur.length (byteCells cur)
theorem liesW : Lies 104 4 2 := ⟨by kernel_rfl, by decide⟩
theorem Wr.bu {w : World} {B : Nat} {k : Int} {lv p bv : Value} {ls : List ByteArray} {cur : List UInt8} (h : Wr w B k lv p bv ls cur) : Bu w B 2 104 [.int .i64 k, lv, p, bv] (B + 1) p bv cur :=
  ⟨h.blk, rfl, rfl, h.self, h.own, liesW, by decide⟩
def endL (ls : List ByteArray) (cur : List UInt8) : List ByteArray := if cur = [] then ls else ls ++ [⟨cur.toArray⟩]

set_option maxRecDepth 20000 in
set_option maxHeartbeats 4000000 in
theorem end_any (B : Nat) (k : Int) (lv p bv : Value) (ls : List ByteArray) (cur : List UInt8) (w : World) (h : Wr w B k lv p bv ls cur) (hn : ls.length ≤ 4000000) (hcl : cur.length ≤ 140737488355328) :
    Calls Tryz.prog 45 #[.pointer (some ⟨B, 0, none⟩)] w fun e w' => ∃ lv' p' bv', e = .returned (.tuple #[]) ∧ Wr w' B k lv' p' bv' (endL ls cur) [] ∧ By (fun j => B ≤ j) w w' := by
  have HL : Hid (Calls Tryz.prog 72 #[.pointer (some ⟨B, 2, none⟩)] w fun e w' => e = .returned (.int .i64 cur.length) ∧ w = w') := len_any B 2 _ _ _ p bv cur w h.bu
  by_cases hc : cur = []
  · subst hc
    have h := Lib.hid h
    go_enter Tryz.func45, Tryz.ntmps45
    go_wp2_with (go_at_call 72; (with_reducible refine HL.out.mono ?_); rintro e w1 ⟨rfl, rfl⟩)
    go_end0
    exact ⟨lv, p, bv, rfl, h.out, By.refl _ _⟩
  have hpos : decide (0 < cur.length) = true := decide_eq_true (by have : cur.length ≠ 0 := fun e => hc (List.eq_nil_of_length_eq_zero e); omega)
  obtain ⟨al, cl, rfl⟩ := own_shape h.lines
  obtain ⟨is, his, hs0, hs1, hs2⟩ := info_parts infoStr
  have HS : Hid (Calls Tryz.prog 42 #[.pointer (some ⟨B, 2, none⟩)] w.drew fun e w' => e = .returned (.string ⟨cur.toArray⟩) ∧ Bu w' B 2 104 [.int .i64 k, .slice al ls.length cl, p, bv] (B + 1) p bv cur ∧ By (fun k => bv.ownBlock = some k) w.drew w') :=
    str_any B 2 _ _ (B + 1) p bv cur w.drew ⟨h.blk, rfl, rfl, h.self, h.own, liesW, by decide⟩ hc
  have hr1 := rows_ne h.lines h.own (by decide)
  have hlB := h.blk.row h.lines (by decide)
  have hbB := h.blk.rowF h.own (by decide)
  have hlge := own_ge h.lines
  have hbge := ownF_ge h.own
  have hr1 := Lib.hid hr1
  have h := Lib.hid h
  go_enter Tryz.func45, Tryz.ntmps45
  go_wp2_with (go_at_call 72; (with_reducible refine HL.out.mono ?_); rintro e w1 ⟨rfl, rfl⟩)
  have hb := h.out.blk
  refine wp_region_still (Keep 8 (fun x => Blk x B 104 [.int .i64 k, .slice al ls.length cl, p, bv])) 14 rfl (by kernel_rfl) ?_
  show stillAny _ _ _ _ _ _ #[false, false, false, false, false, false, false, false, false, false, false, false, false, false] _ _
  refine still_pure 0 (v := .pointer (some ⟨B, 0, none⟩)) rfl (by kernel_rfl) (by kernel_rfl) (by kernel_rfl) (fun _ => hb) rfl (fun w hw => ?_) ?_
  · simp [execOp, go_sem] <;> (intros; omega)
  simp only [Act.put, List.setIfInBounds_toArray, List.set_cons_succ, List.set_cons_zero]
  refine still_pure 1 (v := .pointer (some ⟨B, 0, none⟩)) rfl (by kernel_rfl) (by kernel_rfl) (by kernel_rfl) (fun _ => hb) rfl (fun w hw => ?_) ?_
  · simp [execOp, go_sem] <;> (intros; omega)
  simp only [Act.put, List.setIfInBounds_toArray, List.set_cons_succ, List.set_cons_zero]
  refine still_pure 2 (v := .pointer (some ⟨B, 0, none⟩)) rfl (by kernel_rfl) (by kernel_rfl) (by kernel_rfl) (fun _ => hb) rfl (fun w hw => ?_) ?_
  · simp [execOp, go_sem] <;> (intros; omega)
  simp only [Act.put, List.setIfInBounds_toArray, List.set_cons_succ, List.set_cons_zero]
  refine still_pure 3 (v := .pointer (some ⟨B, 1, none⟩)) rfl (by kernel_rfl) (by kernel_rfl) (by kernel_rfl) (fun _ => hb) rfl (fun w hw => ?_) ?_
  · simp [execOp, go_sem] <;> (intros; omega)
  simp only [Act.put, List.setIfInBounds_toArray, List.set_cons_succ, List.set_cons_zero]
  refine still_pure 4 (v := .slice al ls.length cl) rfl (by kernel_rfl) (by kernel_rfl) (by kernel_rfl) (fun _ => hb) rfl (fun w hw => ?_) ?_
  · replace hw := hw (by decide)
    have hq0 := hw.cell 1
    (try simp at hq0)
    simp [execOp, go_sem, hq0]
  simp only [Act.put, List.setIfInBounds_toArray, List.set_cons_succ, List.set_cons_zero]
  refine still_pure 5 (v := .pointer (some ⟨B, 0, none⟩)) rfl (by kernel_rfl) (by kernel_rfl) (by kernel_rfl) (fun _ => hb) rfl (fun w hw => ?_) ?_
  · simp [execOp, go_sem] <;> (intros; omega)
  simp only [Act.put, List.setIfInBounds_toArray, List.set_cons_succ, List.set_cons_zero]
  refine still_pure 6 (v := .pointer (some ⟨B, 0, none⟩)) rfl (by kernel_rfl) (by kernel_rfl) (by kernel_rfl) (fun _ => hb) rfl (fun w hw => ?_) ?_
  · simp [execOp, go_sem] <;> (intros; omega)
  simp only [Act.put, List.setIfInBounds_toArray, List.set_cons_succ, List.set_cons_zero]
  refine still_pure 7 (v := .pointer (some ⟨B, 2, none⟩)) rfl (by kernel_rfl) (by kernel_rfl) (by kernel_rfl) (fun _ => hb) rfl (fun w hw => ?_) ?_
  · simp [execOp, go_sem] <;> (intros; omega)
  simp only [Act.put, List.setIfInBounds_toArray, List.set_cons_succ, List.set_cons_zero]
  refine still_pick [8] (by kernel_rfl) (by decide) ?_
  intro i hi
  obtain rfl : i = 8 := by simpa using hi
  refine still_one (by first | (simp only [List.getElem?_toArray, List.getElem?_cons_succ, List.getElem?_cons_zero]; rfl) | rfl) (fun R hR => ?_)
  (try simp only [List.getElem_toArray, List.getElem_cons_succ, List.getElem_cons_zero])
  go_wp2_with (go_at_call 42; (with_reducible refine HS.out.mono ?_); rintro e w1 ⟨rfl, hB1, hy1⟩)
  have hL1 : StrsO (B + 1) 9 w1 (.slice al ls.length cl) ls := hy1.grownBy (fun k hk he => by
    rcases hr1.out with h | h
    · rw [h] at hk; cases hk
    · exact h (by rw [hk, he])) (base := B + 1) h.out.lines
  refine only_normal (hR _ _ (Keep.step (fun _ => hB1.blk)) ?_)
  clear hR R
  simp only [Act.put, List.setIfInBounds_toArray, List.set_cons_succ, List.set_cons_zero]
  refine still_pick [9] (by kernel_rfl) (by decide) ?_
  intro i hi
  obtain rfl : i = 9 := by simpa using hi
  refine still_one (by first | (simp only [List.getElem?_toArray, List.getElem?_cons_succ, List.getElem?_cons_zero]; rfl) | rfl) (fun R hR => ?_)
  (try simp only [List.getElem_toArray, List.getElem_cons_succ, List.getElem_cons_zero])
  go_wp2_with fail
  refine only_normal (hR _ _ (Keep.step (fun _ => hB1.blk.gr ((Gr.refl w1).alloc _))) ?_)
  clear hR R
  simp only [Act.put, List.setIfInBounds_toArray, List.set_cons_succ, List.set_cons_zero]
  refine still_pick [10] (by kernel_rfl) (by decide) ?_
  intro i hi
  obtain rfl : i = 10 := by simpa using hi
  refine still_one (by first | (simp only [List.getElem?_toArray, List.getElem?_cons_succ, List.getElem?_cons_zero]; rfl) | rfl) (fun R hR => ?_)
  (try simp only [List.getElem_toArray, List.getElem_cons_succ, List.getElem_cons_zero])
  go_wp2_with (at_builtin; refine wpList_append_rd rfl (.tmp 11) (.tmp 16) 44 rfl (B + 1) 9 is (.string ByteArray.empty) 1 16 (by kernel_rfl) his hs0 hs1 hs2 rfl (by decide) (.slice al ls.length cl) ls.length (ls.map Value.string) rfl (World.ownsRow.alloc hL1 _) _ 1 [.string ⟨cur.toArray⟩] rfl (Rd.new w1 #[.string ⟨cur.toArray⟩] 9 1 1 1 rfl) ?_ ?_ ?_ ?_ ?_; (· intro u hu; simp at hu; subst hu; rfl); (· unfold maxLen; omega); (· omega); (· have := hB1.blk.lt; simp; omega); intro lv2 w2 hown2 hgrow2)
  have hB2 := (hB1.blk.gr ((Gr.refl w1).alloc (.cells #[.string ⟨cur.toArray⟩] 9))).grown hgrow2 hlB
  have hF2 := World.ownsRowF.kept (hB1.own.alloc (.cells #[.string ⟨cur.toArray⟩] 9)) hgrow2 (by
    rcases hr1.out with h | h
    · rw [h]; exact Classical.em (bv.ownBlock = none)
    · exact .inr (fun e => h e.symm))
  have hy2 : By (fun j => B ≤ j) w w2 := (((By.of_gr (Gr.refl w).drew).trans (S := fun j => B ≤ j) hy1 (fun k _ hk => by have := hbge k hk; omega)).trans (S' := fun j => B ≤ j) (By.of_gr ((Gr.refl w1).alloc _)) (fun _ _ h => h)).trans (S' := fun j => B ≤ j) (By.of_grown hgrow2 (own_isRow (World.ownsRow.alloc hL1 (.cells #[.string ⟨cur.toArray⟩] 9))) (fun k hk => by have := hlge k hk; omega)) (fun _ _ h => h)
  obtain ⟨a2, c2, rfl⟩ := own_shape hown2
  clear hgrow2 hy1
  refine only_normal (hR _ _ (Keep.step (fun _ => hB2)) ?_)
  clear hR R
  simp only [Act.put, List.setIfInBounds_toArray, List.set_cons_succ, List.set_cons_zero]
  have d1 := hB2.cell 1
  have f1 := hB2.frozen 1
  simp at d1
  refine still_pick [11] (by kernel_rfl) (by decide) ?_
  intro i hi
  obtain rfl : i = 11 := by simpa using hi
  refine still_one (by first | (simp only [List.getElem?_toArray, List.getElem?_cons_succ, List.getElem?_cons_zero]; rfl) | rfl) (fun R hR => ?_)
  (try simp only [List.getElem_toArray, List.getElem_cons_succ, List.getElem_cons_zero])
  go_wp2_with fail
  refine only_normal (hR _ _ (Keep.step (fun h => h)) ?_)
  clear hR R
  simp only [Act.put, List.setIfInBounds_toArray, List.set_cons_succ, List.set_cons_zero]
  refine still_pick [12] (by kernel_rfl) (by decide) ?_
  intro i hi
  obtain rfl : i = 12 := by simpa using hi
  refine still_one (by first | (simp only [List.getElem?_toArray, List.getElem?_cons_succ, List.getElem?_cons_zero]; rfl) | rfl) (fun R hR => ?_)
  (try simp only [List.getElem_toArray, List.getElem_cons_succ, List.getElem_cons_zero])
  go_wp2_with fail
  refine only_normal (hR _ _ (Keep.step (fun h => h)) ?_)
  clear hR R
  simp only [Act.put, List.setIfInBounds_toArray, List.set_cons_succ, List.set_cons_zero]
  refine still_pick [13] (by kernel_rfl) (by decide) ?_
  intro i hi
  obtain rfl : i = 13 := by simpa using hi
  refine still_one (by first | (simp only [List.getElem?_toArray, List.getElem?_cons_succ, List.getElem?_cons_zero]; rfl) | rfl) (fun R hR => ?_)
  (try simp only [List.getElem_toArray, List.getElem_cons_succ, List.getElem_cons_zero])
  go_wp2_with fail
  refine only_normal (hR _ _ (Keep.last (by kernel_rfl)) ?_)
  clear hR R
  simp only [Act.put, List.setIfInBounds_toArray, List.set_cons_succ, List.set_cons_zero]
  refine still_done (by kernel_rfl) ?_
  have hge2 := own_ge hown2
  have hlB2 := hB2.row hown2 (by decide)
  have hB3 := hB2.set 1 (.slice a2 (ls.length + 1) c2)
  have hF3 := World.ownsRowF.kept hF2 (grown_setCell w2 ⟨B, 1, none⟩ (.slice a2 (ls.length + 1) c2)) (.inr hbB)
  have hL3 := World.ownsRow.kept hown2 (grown_setCell w2 ⟨B, 1, none⟩ (.slice a2 (ls.length + 1) c2)) (.inr hlB2)
  have hy3 := hy2.trans (S' := fun j => B ≤ j) ((By.of_set w2 ⟨B, 1, none⟩ (.slice a2 (ls.length + 1) c2)).mono (fun k _ hk => by rw [hk]; exact Nat.le_refl B)) (fun _ _ h => h)
  have HR : Hid (∀ w', Bu w' B 2 104 [.int .i64 k, .slice a2 (ls.length + 1) c2, p, bv] (B + 1) p bv cur → Calls Tryz.prog 73 #[.pointer (some ⟨B, 2, none⟩)] w' fun e w'' => e = .returned (.tuple #[]) ∧
      Bu w'' B 2 104 [.int .i64 k, .slice a2 (ls.length + 1) c2, .pointer none, .slice none 0 0] (B + 1) (.pointer none) (.slice none 0 0) [] ∧ By (fun k => k = B) w' w'') := fun w' hw' => reset_any B 2 _ _ (B + 1) p bv cur w' hw'
  have hU3 : Bu (w2.setCell ⟨B, 1, none⟩ (.slice a2 (ls.length + 1) c2)) B 2 104 [.int .i64 k, .slice a2 (ls.length + 1) c2, p, bv] (B + 1) p bv cur := ⟨hB3, rfl, rfl, h.out.self, hF3, liesW, by decide⟩
  clear hB3 hF3 hF2 hB2 d1 f1 hown2
  go_wp2_with (go_at_call 73; (with_reducible refine (HR.out _ hU3).mono ?_); rintro e w4 ⟨rfl, hB4, hy4⟩)
  go_end0
  refine ⟨_, _, _, rfl, ⟨hB4.blk, ?_, .inl rfl, hB4.own⟩, hy3.trans hy4 (fun k _ hk => by rw [hk]; exact Nat.le_refl B)⟩
  unfold endL
  rw [if_neg hc]
  have := hy4.grownBy (v := .slice a2 (ls.length + 1) c2) (fun k hk he => by have := hge2 k hk; omega) hL3
  unfold StrsO
  rw [List.length_append, List.map_append]
  exact this
end Go.Proofs.YthadhmhbbfjomaaGreatDoor

/-
  Plain law: how words go into lines.
  Conditions: none.
-/
namespace Go.Proofs.YthadhmhbbfjomaaGreatDoor
set_option linter.unusedVariables false

/-- a word that is longer than a line: its whole lines, and the rest -/
def chop (k : Nat) : Nat → List UInt8 → List ByteArray × List UInt8
  | 0, w => ([], w)
  | f + 1, w => if k < w.length then (⟨(w.take k).toArray⟩ :: (chop k f (w.drop k)).1, (chop k f (w.drop k)).2) else ([], w)
theorem chop_done (k f : Nat) (w : List UInt8) (h : ¬ k < w.length) : chop k f w = ([], w) := by
  cases f with
  | zero => rfl
  | succ f => rw [chop, if_neg h]
theorem chop_step (k f : Nat) (w : List UInt8) (h : k < w.length) : chop k (f + 1) w = (⟨(w.take k).toArray⟩ :: (chop k f (w.drop k)).1, (chop k f (w.drop k)).2) := by rw [chop, if_pos h]
/-- a word more -/
def addW (k : Nat) (s : List ByteArray × List UInt8) (w : List UInt8) : List ByteArray × List UInt8 :=
  if s.2 ≠ [] ∧ s.2.length + 1 + w.length ≤ k then (s.1, s.2 ++ 32 :: w) else (endL s.1 s.2 ++ (chop k w.length w).1, (chop k w.length w).2)
theorem chop_len (k : Nat) (hk : 0 < k) : ∀ (f : Nat) (w : List UInt8), w.length ≤ f → (chop k f w).1.length + (chop k f w).2.length ≤ w.length ∧ (chop k f w).2.length ≤ k
  | 0, w, h => by
    have : w = [] := List.eq_nil_of_length_eq_zero (by omega)
    subst this
    simp [chop]
  | f + 1, w, h => by
    by_cases c : k < w.length
    · rw [chop_step _ _ _ c]
      have := chop_len k hk f (w.drop k) (by rw [List.length_drop]; omega)
      rw [List.length_drop] at this
      simp only [List.length_cons]
      omega
    · rw [chop_done _ _ _ c]
      simp only [List.length_nil]
      omega
theorem endL_len (ls : List ByteArray) (cur : List UInt8) : (endL ls cur).length ≤ ls.length + 1 := by
  unfold endL
  split
  · omega
  · simp
end Go.Proofs.YthadhmhbbfjomaaGreatDoor
