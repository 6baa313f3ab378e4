/-
  Contracts of the methods of edl's writer: text, three, code.
  Conditions: what is written takes at most 2^47 bytes; the table of powers is laid.
-/
import Derived.Test.YtgbiodnfpbhjiaaGreatDoorWalkBd
import Derived.Test.YtgbiodnfpbhjiaaGreatDoorWalkRp
import Derived.Test.YtgbiodnfpbhjiaaGreatDoorWalk19L
import Derived.Test.YtgbiodnfpbhjiaaGreatDoorMathFa
import Derived.Test.YtgbiodnfpbhjiaaGreatDoorKit
import Derived.Test.YtgbiodnfpbhjiaaGreatDoorMath19D
import Derived.Deep.DeepCutAuto
namespace Go.Proofs.YtgbiodnfpbhjiaaGreatDoor
open Go.RowKit Go.Lib
set_option linter.unusedSimpArgs false
set_option linter.unusedVariables false

/-- block B is the writer: its bytes l, base, drop, no error -/
def Wt (w : World) (B : Nat) (b : Int) (d : Bool) (l : List UInt8) : Prop := ∃ p v, Bu w B 0 100 [p, v, .int .i64 b, .bool d, .int .i64 0] (B + 1) p v l
theorem liesW : Lies 100 5 0 := ⟨by kernel_rfl, by decide⟩
theorem Wt.new (w : World) (b : Int) (d : Bool) : Wt (w.alloc (.cells #[.pointer none, .slice none 0 0, .int .i64 b, .bool d, .int .i64 0] 100)) w.heap.size b d [] :=
  ⟨.pointer none, .slice none 0 0, Blk.new w [.pointer none, .slice none 0 0, .int .i64 b, .bool d, .int .i64 0] _, rfl, rfl, .inl rfl, World.ownsRowF_nil _ _ _ _, liesW, by decide⟩
theorem Wt.lt {w : World} {B : Nat} {b : Int} {d : Bool} {l : List UInt8} (h : Wt w B b d l) : B < w.heap.size := by
  obtain ⟨p, v, h⟩ := h
  exact h.blk.lt
theorem Wt.gr {w w' : World} {B : Nat} {b : Int} {d : Bool} {l : List UInt8} (h : Wt w B b d l) (hg : Gr w w') : Wt w' B b d l := by
  obtain ⟨p, v, h⟩ := h
  exact ⟨p, v, h.blk.gr hg, h.hp, h.hv, h.self, World.ownsRowF.kept h.own hg.by0 (Classical.em _), h.lies, h.ne⟩
theorem Wt.cells {w : World} {B : Nat} {b : Int} {d : Bool} {l : List UInt8} (h : Wt w B b d l) : w.cell? ⟨B, 2, none⟩ = some (.int .i64 b) ∧ w.cell? ⟨B, 3, none⟩ = some (.bool d) ∧ w.cell? ⟨B, 4, none⟩ = some (.int .i64 0) ∧ w.frozen? ⟨B, 4, none⟩ = false := by
  obtain ⟨p, v, h⟩ := h
  exact ⟨h.blk.cell 2, h.blk.cell 3, h.blk.cell 4, h.blk.frozen 4⟩
theorem Wt.set {w : World} {B : Nat} {b : Int} {d : Bool} {l : List UInt8} (h : Wt w B b d l) : Wt (w.setCell ⟨B, 4, none⟩ (.int .i64 0)) B b d l ∧ By (Wb w B) w (w.setCell ⟨B, 4, none⟩ (.int .i64 0)) := by
  obtain ⟨p, v, h⟩ := h
  refine ⟨⟨p, v, h.blk.set 4 (.int .i64 0), h.hp, h.hv, h.self, ?_, h.lies, h.ne⟩, (By.of_set w ⟨B, 4, none⟩ (.int .i64 0)).mono (fun k _ hk => .inl hk)⟩
  exact World.ownsRowF.kept h.own (grown_setCell w ⟨B, 4, none⟩ (.int .i64 0)) (.inr (h.blk.rowF h.own h.ne))
theorem Wb.trans {w w1 w2 : World} {B : Nat} (h1 : By (Wb w B) w w1) (h2 : By (Wb w1 B) w1 w2) : By (Wb w B) w w2 :=
  h1.trans h2 (fun k hk hw => Classical.byContradiction fun hn => hn (by
    have hb := h1.block hk hn
    rcases hw with hw | ⟨hw, c, f, hx⟩
    · exact .inl hw
    · exact .inr ⟨hw, c, f, by rw [← hb]; exact hx⟩))
theorem Wb.of_gr {w w1 : World} {B : Nat} (h : Gr w w1) : By (Wb w B) w w1 := By.of_gr h
set_option maxRecDepth 20000 in
set_option maxHeartbeats 1000000 in
theorem wtext_any (B : Nat) (b : Int) (d : Bool) (l : List UInt8) (s : ByteArray) (w : World) (h : Wt w B b d l) (hlen : l.length + s.size ≤ 140737488355328) :
    Calls Tryz.prog 59 #[.pointer (some ⟨B, 0, none⟩), .string s] w fun e w' => e = .returned (.tuple #[]) ∧ Wt w' B b d (l ++ s.data.toList) ∧ By (Wb w B) w w' := by
  have HW : Hid (Calls Tryz.prog 99 #[.pointer (some ⟨B, 0, none⟩), .string s] w fun e w' => e = .returned (.tuple #[.int .i64 s.size, .nilIface]) ∧ Wt w' B b d (l ++ s.data.toList) ∧ By (Wb w B) w w') := by
    obtain ⟨p, v, h⟩ := h
    have hk := ownF_kind h.own
    have hge := ownF_ge h.own
    refine (ws_any B 0 _ _ (B + 1) p v l s w h hlen (by have := h.blk.lt; omega)).mono ?_
    rintro e w' ⟨v', rfl, hU, hy⟩
    refine ⟨rfl, ⟨_, v', hU⟩, hy.mono (fun k _ hk2 => ?_)⟩
    rcases hk2 with hk2 | hk2
    · exact .inl hk2
    · exact .inr ⟨by have := hge k hk2; omega, hk k hk2⟩
  have hB := h.lt
  clear h
  go_enter Tryz.func59, Tryz.ntmps59
  go_wp2_with (go_at_call 99; (with_reducible refine HW.out.mono ?_); rintro e w1 ⟨rfl, h1, h2⟩)
  refine bodyPost_end (v := .tuple #[]) ?_ ?_ ?_
  · exact results_none rfl _ _ _
  · rfl
  exact ⟨rfl, h1, h2⟩
theorem padL_t3 {n : Int} (h0 : 0 ≤ n) (h1 : n < 1000) : padL 3 n = t3 n := by
  have h : ∀ m : Fin 1000, padL 3 (m.1 : Int) = t3 (m.1 : Int) := by decide +kernel
  have := h ⟨n.toNat, by omega⟩
  simp only at this
  rwa [show ((n.toNat : Nat) : Int) = n by omega] at this
set_option maxRecDepth 20000 in
set_option maxHeartbeats 1000000 in
theorem wthree_0 (R : ByteArray) (B : Nat) (b : Int) (d : Bool) (acc l : List UInt8) (n : Int) (w : World) (h : Wt w B b d acc) (hT : Pow w) (hl : l.length = 3) (hR : R.data.toList = List.replicate 0 48) (hlen : acc.length + 3 ≤ 140737488355328)
    (HF : ∀ w, Pow w → Calls Tryz.prog 131 #[.int .i64 n, .int .i64 10] w fun e w' => e = .returned (.string ⟨l.toArray⟩) ∧ Gr w w')
    (HR : ∀ w, Calls Tryz.prog 132 #[.string ⟨#[48]⟩, .int .i64 0] w fun e w' => e = .returned (.string R) ∧ Gr w w') :
    Calls Tryz.prog 100 #[.pointer (some ⟨B, 0, none⟩), .int .i64 n] w fun e w' => e = .returned (.tuple #[]) ∧ Wt w' B b d (acc ++ (List.replicate 0 48 ++ l)) ∧ By (Wb w B) w w' := by
  have HF := Lib.hid HF
  have HR := Lib.hid HR
  have hT := Lib.hid hT
  have HW : Hid (∀ w', Gr w w' → Calls Tryz.prog 59 #[.pointer (some ⟨B, 0, none⟩), .string (R ++ ⟨l.toArray⟩)] w' fun e w'' => e = .returned (.tuple #[]) ∧ Wt w'' B b d (acc ++ (List.replicate 0 48 ++ l)) ∧ By (Wb w B) w w'') := fun w' hg => by
    have e : (R ++ ⟨l.toArray⟩ : ByteArray).data.toList = List.replicate 0 48 ++ l := by rw [← hR]; simp
    have el : (R ++ ⟨l.toArray⟩ : ByteArray).size = 3 := by rw [← ba_len, e, List.length_append, List.length_replicate, hl]
    generalize (R ++ ⟨l.toArray⟩ : ByteArray) = S at e el ⊢
    refine (wtext_any B b d acc S w' (h.gr hg) (by rw [el]; exact hlen)).mono ?_
    rintro e2 w'' ⟨rfl, h1, h2⟩
    rw [e] at h1
    exact ⟨rfl, h1, Wb.trans (Wb.of_gr hg) h2⟩
  have hB := h.lt
  have hRz : R.size ≤ 2 := by rw [← ba_len, hR, List.length_replicate]; omega
  clear h hR
  go_enter Tryz.func100, Tryz.ntmps100
  go_wp2_with (first
    | (go_at_call 131; (with_reducible refine (HF.out _ hT.out).mono ?_); rintro e w1 ⟨rfl, hg1⟩)
    | (go_at_call 132; (refine (HR.out _).mono ?_); rintro e w2 ⟨rfl, hg2⟩)
    | (go_at_call 59; (with_reducible refine (HW.out _ (hg1.trans hg2)).mono ?_); rintro e w3 ⟨rfl, h1, h2⟩))
  refine bodyPost_end (v := .tuple #[]) ?_ ?_ ?_
  · exact results_none rfl _ _ _
  · rfl
  exact ⟨rfl, h1, h2⟩
set_option maxRecDepth 20000 in
set_option maxHeartbeats 1000000 in
theorem wthree_1 (R : ByteArray) (B : Nat) (b : Int) (d : Bool) (acc l : List UInt8) (n : Int) (w : World) (h : Wt w B b d acc) (hT : Pow w) (hl : l.length = 2) (hR : R.data.toList = List.replicate 1 48) (hlen : acc.length + 3 ≤ 140737488355328)
    (HF : ∀ w, Pow w → Calls Tryz.prog 131 #[.int .i64 n, .int .i64 10] w fun e w' => e = .returned (.string ⟨l.toArray⟩) ∧ Gr w w')
    (HR : ∀ w, Calls Tryz.prog 132 #[.string ⟨#[48]⟩, .int .i64 1] w fun e w' => e = .returned (.string R) ∧ Gr w w') :
    Calls Tryz.prog 100 #[.pointer (some ⟨B, 0, none⟩), .int .i64 n] w fun e w' => e = .returned (.tuple #[]) ∧ Wt w' B b d (acc ++ (List.replicate 1 48 ++ l)) ∧ By (Wb w B) w w' := by
  have HF := Lib.hid HF
  have HR := Lib.hid HR
  have hT := Lib.hid hT
  have HW : Hid (∀ w', Gr w w' → Calls Tryz.prog 59 #[.pointer (some ⟨B, 0, none⟩), .string (R ++ ⟨l.toArray⟩)] w' fun e w'' => e = .returned (.tuple #[]) ∧ Wt w'' B b d (acc ++ (List.replicate 1 48 ++ l)) ∧ By (Wb w B) w w'') := fun w' hg => by
    have e : (R ++ ⟨l.toArray⟩ : ByteArray).data.toList = List.replicate 1 48 ++ l := by rw [← hR]; simp
    have el : (R ++ ⟨l.toArray⟩ : ByteArray).size = 3 := by rw [← ba_len, e, List.length_append, List.length_replicate, hl]
    generalize (R ++ ⟨l.toArray⟩ : ByteArray) = S at e el ⊢
    refine (wtext_any B b d acc S w' (h.gr hg) (by rw [el]; exact hlen)).mono ?_
    rintro e2 w'' ⟨rfl, h1, h2⟩
    rw [e] at h1
    exact ⟨rfl, h1, Wb.trans (Wb.of_gr hg) h2⟩
  have hB := h.lt
  have hRz : R.size ≤ 2 := by rw [← ba_len, hR, List.length_replicate]; omega
  clear h hR
  go_enter Tryz.func100, Tryz.ntmps100
  go_wp2_with (first
    | (go_at_call 131; (with_reducible refine (HF.out _ hT.out).mono ?_); rintro e w1 ⟨rfl, hg1⟩)
    | (go_at_call 132; (refine (HR.out _).mono ?_); rintro e w2 ⟨rfl, hg2⟩)
    | (go_at_call 59; (with_reducible refine (HW.out _ (hg1.trans hg2)).mono ?_); rintro e w3 ⟨rfl, h1, h2⟩))
  refine bodyPost_end (v := .tuple #[]) ?_ ?_ ?_
  · exact results_none rfl _ _ _
  · rfl
  exact ⟨rfl, h1, h2⟩
set_option maxRecDepth 20000 in
set_option maxHeartbeats 1000000 in
theorem wthree_2 (R : ByteArray) (B : Nat) (b : Int) (d : Bool) (acc l : List UInt8) (n : Int) (w : World) (h : Wt w B b d acc) (hT : Pow w) (hl : l.length = 1) (hR : R.data.toList = List.replicate 2 48) (hlen : acc.length + 3 ≤ 140737488355328)
    (HF : ∀ w, Pow w → Calls Tryz.prog 131 #[.int .i64 n, .int .i64 10] w fun e w' => e = .returned (.string ⟨l.toArray⟩) ∧ Gr w w')
    (HR : ∀ w, Calls Tryz.prog 132 #[.string ⟨#[48]⟩, .int .i64 2] w fun e w' => e = .returned (.string R) ∧ Gr w w') :
    Calls Tryz.prog 100 #[.pointer (some ⟨B, 0, none⟩), .int .i64 n] w fun e w' => e = .returned (.tuple #[]) ∧ Wt w' B b d (acc ++ (List.replicate 2 48 ++ l)) ∧ By (Wb w B) w w' := by
  have HF := Lib.hid HF
  have HR := Lib.hid HR
  have hT := Lib.hid hT
  have HW : Hid (∀ w', Gr w w' → Calls Tryz.prog 59 #[.pointer (some ⟨B, 0, none⟩), .string (R ++ ⟨l.toArray⟩)] w' fun e w'' => e = .returned (.tuple #[]) ∧ Wt w'' B b d (acc ++ (List.replicate 2 48 ++ l)) ∧ By (Wb w B) w w'') := fun w' hg => by
    have e : (R ++ ⟨l.toArray⟩ : ByteArray).data.toList = List.replicate 2 48 ++ l := by rw [← hR]; simp
    have el : (R ++ ⟨l.toArray⟩ : ByteArray).size = 3 := by rw [← ba_len, e, List.length_append, List.length_replicate, hl]
    generalize (R ++ ⟨l.toArray⟩ : ByteArray) = S at e el ⊢
    refine (wtext_any B b d acc S w' (h.gr hg) (by rw [el]; exact hlen)).mono ?_
    rintro e2 w'' ⟨rfl, h1, h2⟩
    rw [e] at h1
    exact ⟨rfl, h1, Wb.trans (Wb.of_gr hg) h2⟩
  have hB := h.lt
  have hRz : R.size ≤ 2 := by rw [← ba_len, hR, List.length_replicate]; omega
  clear h hR
  go_enter Tryz.func100, Tryz.ntmps100
  go_wp2_with (first
    | (go_at_call 131; (with_reducible refine (HF.out _ hT.out).mono ?_); rintro e w1 ⟨rfl, hg1⟩)
    | (go_at_call 132; (refine (HR.out _).mono ?_); rintro e w2 ⟨rfl, hg2⟩)
    | (go_at_call 59; (with_reducible refine (HW.out _ (hg1.trans hg2)).mono ?_); rintro e w3 ⟨rfl, h1, h2⟩))
  refine bodyPost_end (v := .tuple #[]) ?_ ?_ ?_
  · exact results_none rfl _ _ _
  · rfl
  exact ⟨rfl, h1, h2⟩
theorem wthree_any (B : Nat) (b : Int) (d : Bool) (acc : List UInt8) (n : Int) (w : World) (h : Wt w B b d acc) (hT : Pow w) (h0 : 0 ≤ n) (h1 : n < 1000) (hlen : acc.length + 3 ≤ 140737488355328) :
    Calls Tryz.prog 100 #[.pointer (some ⟨B, 0, none⟩), .int .i64 n] w fun e w' => e = .returned (.tuple #[]) ∧ Wt w' B b d (acc ++ t3 n) ∧ By (Wb w B) w w' := by
  have h3 := itoa_len ⟨n.toNat, by omega⟩
  have hn : ((⟨n.toNat, by omega⟩ : Fin 1000) : Int) = n := by show ((n.toNat : Nat) : Int) = n; omega
  have h4 : 1 ≤ (itoa n).length ∧ (itoa n).length ≤ 3 := by
    have e : (itoa ((⟨n.toNat, by omega⟩ : Fin 1000) : Int)) = itoa n := by rw [hn]
    rw [← e]
    exact ⟨h3.1, h3.2.2⟩
  have HF : ∀ w, Pow w → Calls Tryz.prog 131 #[.int .i64 n, .int .i64 10] w fun e w' => e = .returned (.string ⟨(itoa n).toArray⟩) ∧ Gr w w' := fun w hT => fint_any n w hT (by omega) (by omega)
  rw [← padL_t3 h0 h1]
  unfold padL
  have hc : (itoa n).length = 3 ∨ (itoa n).length = 2 ∨ (itoa n).length = 1 := by omega
  rcases hc with hc | hc | hc
  · rw [hc]; exact wthree_0 _ B b d acc _ n w h hT hc rfl hlen HF repeat_0
  · rw [hc]; exact wthree_1 _ B b d acc _ n w h hT hc rfl hlen HF repeat_1
  · rw [hc]; exact wthree_2 _ B b d acc _ n w h hT hc rfl hlen HF repeat_2
/-- a frame of the day has a label whose text is there -/
theorem lab_ok {n b : Int} {d : Bool} (ho : C19.okB b d = true) (h0 : 0 ≤ n) (h1 : n < C19.dayN b d) :
    C19.nmE (C19.lm n b d / 60) (C19.lm n b d % 60) (C19.lf n b d / b) (C19.lf n b d % b) b d = 0 := by
  have hq := C19.label_num ho h0 h1
  have e : n % C19.dayN b d = n := Int.emod_eq_of_lt h0 h1
  unfold C19.nmE C19.lm C19.lf
  rw [e, ho, hq.1, hq.2.1]
  rfl
set_option maxRecDepth 20000 in
set_option maxHeartbeats 4000000 in
theorem wcode_core (x1 x2 x3 x4 : Int) (S : ByteArray) (r : List UInt8) (hS : S.size ≤ 11) (B : Nat) (b : Int) (d : Bool) (acc : List UInt8) (n : Int) (w : World) (h : Wt w B b d acc)
    (HL : ∀ w', Calls Tryz.prog 133 #[.int .i64 n, .int .i64 b, .bool d] w' fun e w'' => e = .returned (.tuple #[.agg #[.int .i64 x1, .int .i64 x2, .int .i64 x3, .int .i64 x4, .int .i64 b, .bool d], .int .i64 0]) ∧ Gr w' w'')
    (HF : ∀ w', Calls Tryz.prog 134 #[.agg #[.int .i64 x1, .int .i64 x2, .int .i64 x3, .int .i64 x4, .int .i64 b, .bool d]] w' fun e w'' => e = .returned (.tuple #[.string S, .int .i64 0]) ∧ Gr w' w'')
    (HW : ∀ w', Gr w w' → Calls Tryz.prog 59 #[.pointer (some ⟨B, 0, none⟩), .string (⟨#[32]⟩ ++ S)] w' fun e w'' => e = .returned (.tuple #[]) ∧ Wt w'' B b d r ∧ By (Wb w B) w w'') :
    Calls Tryz.prog 101 #[.pointer (some ⟨B, 0, none⟩), .int .i64 n] w fun e w' => e = .returned (.tuple #[]) ∧ Wt w' B b d r ∧ By (Wb w B) w w' := by
  have HL := Lib.hid HL
  have HF := Lib.hid HF
  have HW := Lib.hid HW
  have hB := h.lt
  obtain ⟨c2, c3, c4, c5⟩ := h.cells
  go_enter Tryz.func101, Tryz.ntmps101
  go_wp2
  refine wp_region_mix 13 (by kernel_rfl) (by kernel_rfl) (fun B hB hq1 hq2 => ?_)
  simp only [List.take_succ_cons, List.take_zero, List.drop_succ_cons, List.drop_zero]
  repeat (first | go_big_quiet_skip | (go_big_quiet_want; go_big_quiet_op; first | go_big_quiet_on | (apply Exists.intro; refine ⟨fun _ => ?_, ?_⟩; (· ((go_at_call 133; with_reducible exact gr_call (HL.out _)))); go_big_quiet_on)))
  refine wpQuiet_nil ?_
  clear hq1 hq2 hB B
  refine loudRun_cons (fun R2 hR2 w2 hg2 => ?_)
  obtain ⟨hc2, hf2⟩ := hg2.cells
  have hz2 := hg2.size
  (try simp at hz2); (try have hl2_0_0 : w.heap.size < w2.heap.size := by omega); (try have hm2_0_0 : w.heap.size ≤ w2.heap.size := by omega); (try have hl2_0_1 : w.heap.size + 1 < w2.heap.size := by omega); (try have hl2_0_2 : w.heap.size + 2 < w2.heap.size := by omega); (try have hl2_1_0 : w1.heap.size < w2.heap.size := by omega); (try have hm2_1_0 : w1.heap.size ≤ w2.heap.size := by omega); (try have hl2_1_1 : w1.heap.size + 1 < w2.heap.size := by omega); (try have hl2_1_2 : w1.heap.size + 2 < w2.heap.size := by omega)
  go_wp2_with fail
  refine only_normal (hR2 _ _ (by repeat (first | with_reducible exact Gr.refl _ | with_reducible assumption | refine Gr.setCell ?_ (by first | omega | (simp; done) | (simp; omega)) _ | refine Gr.alloc ?_ _ | refine Gr.drew ?_ | refine Gr.drewN ?_ _ | refine Gr.trans ?_ (by with_reducible assumption))) ?_)
  clear hR2 R2
  have cG := Cel.new w2 #[.int .i64 0, .int .i64 0, .int .i64 0, .int .i64 0, .int .i64 0, .bool false] 153
  obtain ⟨G, hG⟩ : ∃ G, w2.heap.size = G := ⟨_, rfl⟩
  have hGw : w.heap.size ≤ G := by have := hg2.size; omega
  refine loudRun_cons (fun R hR w3 hg3 => ?_)
  have c3 := cG.gr hg3
  rw [hG] at c3 ⊢
  have l0 := c3.lt
  obtain ⟨p0, f0⟩ := c3.2 0 _ rfl
  obtain ⟨p1, f1⟩ := c3.2 1 _ rfl
  obtain ⟨p2, f2⟩ := c3.2 2 _ rfl
  obtain ⟨p3, f3⟩ := c3.2 3 _ rfl
  obtain ⟨p4, f4⟩ := c3.2 4 _ rfl
  obtain ⟨p5, f5⟩ := c3.2 5 _ rfl
  go_wp2_with fail
  have hgS : Gr w ((((((w3.setCell ⟨G, 0, none⟩ (.int .i64 x1)).setCell ⟨G, 1, none⟩ (.int .i64 x2)).setCell ⟨G, 2, none⟩ (.int .i64 x3)).setCell ⟨G, 3, none⟩ (.int .i64 x4)).setCell ⟨G, 4, none⟩ (.int .i64 b)).setCell ⟨G, 5, none⟩ (.bool d)) := ((((((hg2.trans (((Gr.refl w2).alloc _).trans hg3)).setCell (by simp; omega) _).setCell (by simp; omega) _).setCell (by simp; omega) _).setCell (by simp; omega) _).setCell (by simp; omega) _).setCell (by simp; omega) _
  have cS := (((((c3.set (k := 0) (by simp) (.int .i64 x1)).set (k := 1) (by simp) (.int .i64 x2)).set (k := 2) (by simp) (.int .i64 x3)).set (k := 3) (by simp) (.int .i64 x4)).set (k := 4) (by simp) (.int .i64 b)).set (k := 5) (by simp) (.bool d)
  simp only [List.set_cons_succ, List.set_cons_zero] at cS
  refine only_normal (hR _ _ hgS ?_)
  clear hR R
  clear c3 cG hg2 hg3 hG l0 p0 p1 p2 p3 p4 p5 f0 f1 f2 f3 f4 f5
  generalize (((((w3.setCell ⟨G, 0, none⟩ (.int .i64 x1)).setCell ⟨G, 1, none⟩ (.int .i64 x2)).setCell ⟨G, 2, none⟩ (.int .i64 x3)).setCell ⟨G, 3, none⟩ (.int .i64 x4)).setCell ⟨G, 4, none⟩ (.int .i64 b)).setCell ⟨G, 5, none⟩ (.bool d) = W at *
  refine loudRun_cons (fun R hR w4 hg4 => ?_)
  go_wp2_with fail
  refine only_normal (hR _ _ (hgS.trans hg4) ?_)
  clear hR R
  refine loudRun_nil (fun w5 hg5 => ?_)
  replace cS := (cS.gr hg4).gr hg5
  replace hgS := (hgS.trans hg4).trans hg5
  clear hg4 hg5
  have k0 := cS.lt
  have k1 := (cS.2 0 _ rfl).1
  have k2 := (cS.2 1 _ rfl).1
  have k3 := (cS.2 2 _ rfl).1
  have k4 := (cS.2 3 _ rfl).1
  have k5 := (cS.2 4 _ rfl).1
  have k6 := (cS.2 5 _ rfl).1
  clear cS c2 c3 c4 c5
  go_wp2_with (first
    | (go_at_call 134; (with_reducible refine (HF.out _).mono ?_); rintro e w6 ⟨rfl, hg6⟩)
    | (go_at_call 59; (with_reducible refine (HW.out _ (hgS.trans hg6)).mono ?_); rintro e w7 ⟨rfl, h3, h4⟩; have hBl := h3.lt; obtain ⟨d2, d3, d4, d5⟩ := h3.cells))
  refine bodyPost_end (v := .tuple #[]) ?_ ?_ ?_
  · exact results_none rfl _ _ _
  · rfl
  exact ⟨rfl, h3.set.1, Wb.trans h4 h3.set.2⟩
theorem wcode_any (B : Nat) (b : Int) (d : Bool) (acc : List UInt8) (n : Int) (w : World) (h : Wt w B b d acc) (ho : C19.okB b d = true) (h0 : 0 ≤ n) (h1 : n < C19.dayN b d) (hlen : acc.length + 12 ≤ 140737488355328) :
    Calls Tryz.prog 101 #[.pointer (some ⟨B, 0, none⟩), .int .i64 n] w fun e w' => e = .returned (.tuple #[]) ∧ Wt w' B b d (acc ++ ([32] ++ labB n b d)) ∧ By (Wb w B) w w' := by
  have hd := (C19.dayN_pos ho).2
  refine wcode_core (C19.lm n b d / 60) (C19.lm n b d % 60) (C19.lf n b d / b) (C19.lf n b d % b) (labS n b d) _ (by rw [← ba_len]; exact Nat.le_of_eq (labB_no ho).2) B b d acc n w h (fun w' => C19.label_any n b d w' ⟨by omega, by omega⟩ ho) (fun w' => ?_) (fun w' hg => ?_)
  · have := C19.format_any (C19.lm n b d / 60) (C19.lm n b d % 60) (C19.lf n b d / b) (C19.lf n b d % b) b d w'
    unfold C19.fmV at this
    rw [lab_ok ho h0 h1, if_pos rfl] at this
    exact this
  · have e : ((⟨#[32]⟩ : ByteArray) ++ labS n b d).data.toList = [32] ++ labB n b d := by unfold labB; simp
    have el : ((⟨#[32]⟩ : ByteArray) ++ labS n b d).size = 12 := by rw [← ba_len, e, List.length_append, (labB_no ho).2]; rfl
    generalize (⟨#[32]⟩ : ByteArray) ++ labS n b d = S at e el ⊢
    refine (wtext_any B b d acc S w' (h.gr hg) (by rw [el]; exact hlen)).mono ?_
    rintro e2 w'' ⟨rfl, h1, h2⟩
    rw [e] at h1
    exact ⟨rfl, h1, Wb.trans (Wb.of_gr hg) h2⟩
end Go.Proofs.YtgbiodnfpbhjiaaGreatDoor
