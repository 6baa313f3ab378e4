/-
  Contract of strings.Cut at the separator '/'.
  Conditions: the string has at most 2^47 bytes.
-/
import Derived.Test.YtclfiaemjdflbaaDoorWalkFr
import Derived.Test.YtclfiaemjdflbaaDoorReg
import Derived.Lib.Explode
import Derived.IntWalk
namespace Go.Proofs.YtclfiaemjdflbaaDoor
open Go.RowKit Go.Lib
set_option linter.unusedSimpArgs false
set_option linter.unusedVariables false

theorem index_bound : ∀ (l : List UInt8) (c : UInt8), indexByte l c = -1 ∨ ∃ k : Nat, indexByte l c = k ∧ k < l.length
  | [], _ => .inl rfl
  | b :: l, c => by
    rw [indexByte]
    by_cases h : b = c
    · right; exact ⟨0, by simp [h], by simp⟩
    · rcases index_bound l c with e | ⟨k, e, hk⟩
      · left; simp [h, e]
      · right
        refine ⟨k + 1, ?_, by simp; omega⟩
        have : ¬ (k : Int) = -1 := by omega
        simp [h, e, this]
set_option maxHeartbeats 1000000 in
theorem lcut_no (s : ByteArray) (w : World) (hi : indexByte s.data.toList 47 = -1) :
    Calls Tryd.prog 41 #[.string s, .string ⟨#[47]⟩] w fun e w' => e = .returned (.tuple #[.string s, .string ⟨#[]⟩, .bool false]) ∧ Gr w w' := by
  have HI := Lib.hid (fun w => (by have := Tryd.stringslite_Index_one s 47 w; rw [hi] at this; exact this : Calls Tryd.prog 50 #[.string s, .string ⟨#[47]⟩] w fun e w' => e = .returned (.int .i64 (-1)) ∧ w' = w))
  clear hi
  go_enter Tryd.func41, Tryd.ntmps41
  go_wp2_with (go_at_call 50; with_reducible refine (HI.out _).mono ?_; rintro e w' ⟨rfl, rfl⟩)
  go_ret3
  exact ⟨rfl, (by repeat (first | with_reducible exact Gr.refl _ | with_reducible assumption | refine Gr.setCell ?_ (by first | omega | (simp; done) | (simp; omega)) _ | refine Gr.alloc ?_ _ | refine Gr.drew ?_ | refine Gr.drewN ?_ _ | refine Gr.trans ?_ (by with_reducible assumption)))⟩
set_option maxHeartbeats 1000000 in
theorem lcut_yes (s : ByteArray) (k : Nat) (w : World) (hk : k < s.size) (hm : s.size ≤ 140737488355328) (hi : indexByte s.data.toList 47 = k) :
    Calls Tryd.prog 41 #[.string s, .string ⟨#[47]⟩] w fun e w' => e = .returned (.tuple #[.string (s.extract 0 k), .string (s.extract (k + 1) s.size), .bool true]) ∧ Gr w w' := by
  have HI := Lib.hid (fun w => (by have := Tryd.stringslite_Index_one s 47 w; rw [hi] at this; exact this : Calls Tryd.prog 50 #[.string s, .string ⟨#[47]⟩] w fun e w' => e = .returned (.int .i64 k) ∧ w' = w))
  clear hi
  have q : decide (0 ≤ (k : Int)) = true := decide_eq_true (by omega)
  have k1 : (k : Int) ≤ 140737488355328 := by omega
  go_enter Tryd.func41, Tryd.ntmps41
  go_wp2_with (go_at_call 50; with_reducible refine (HI.out _).mono ?_; rintro e w' ⟨rfl, rfl⟩)
  have e1 : IntKind.i64.wrap ((k : Int) + 1) = (k : Int) + 1 := IntWalk.i64_in _ (by omega)
  have e2 : 0 ≤ (k : Int) + 1 := by omega
  have e3 : ((k : Int) + 1).toNat = k + 1 := by omega
  refine wp_region_gr (by kernel_rfl) (by kernel_rfl) (fun hq1 hq2 => ?_)
  repeat (first | go_big_quiet_skip | (go_big_quiet_want; go_big_quiet_op; first | go_big_quiet_on | (apply Exists.intro; refine ⟨fun _ => ?_, ?_⟩; (· (fail)); go_big_quiet_on)))
  refine wpQuiet_nil ?_
  clear hq1 hq2
  rintro w1 ⟨⟨_, hg1⟩, rfl⟩
  obtain ⟨hc1, hf1⟩ := hg1.cells
  have hz1 := hg1.size
  (try simp at hz1); (try have hl1_0_0 : w.heap.size < w1.heap.size := by omega); (try have hm1_0_0 : w.heap.size ≤ w1.heap.size := by omega); (try have hl1_0_1 : w.heap.size + 1 < w1.heap.size := by omega); (try have hl1_0_2 : w.heap.size + 2 < w1.heap.size := by omega)
  go_wp2_with fail
  go_ret3
  exact ⟨rfl, (by repeat (first | with_reducible exact Gr.refl _ | with_reducible assumption | refine Gr.setCell ?_ (by first | omega | (simp; done) | (simp; omega)) _ | refine Gr.alloc ?_ _ | refine Gr.drew ?_ | refine Gr.drewN ?_ _ | refine Gr.trans ?_ (by with_reducible assumption)))⟩

set_option maxHeartbeats 1000000 in
theorem cut_no (s : ByteArray) (hi : indexByte s.data.toList 47 = -1) (w : World) :
    Calls Tryd.prog 28 #[.string s, .string ⟨#[47]⟩] w fun e w' => e = .returned (.tuple #[.string s, .string ⟨#[]⟩, .bool false]) ∧ Gr w w' := by
  have HC := Lib.hid (fun w => lcut_no s w hi)
  clear hi
  go_enter Tryd.func28, Tryd.ntmps28
  go_wp2_with (go_at_call 41; with_reducible refine (HC.out _).mono ?_; rintro e w1 ⟨rfl, hg1⟩; obtain ⟨hc1, hf1⟩ := hg1.cells; have hz1 := hg1.size; (try simp at hz1); (try have hl1_0_0 : w.heap.size < w1.heap.size := by omega); (try have hm1_0_0 : w.heap.size ≤ w1.heap.size := by omega); (try have hl1_0_1 : w.heap.size + 1 < w1.heap.size := by omega); (try have hl1_0_2 : w.heap.size + 2 < w1.heap.size := by omega))
  go_ret3
  exact ⟨rfl, (by repeat (first | with_reducible exact Gr.refl _ | with_reducible assumption | refine Gr.setCell ?_ (by first | omega | (simp; done) | (simp; omega)) _ | refine Gr.alloc ?_ _ | refine Gr.drew ?_ | refine Gr.drewN ?_ _ | refine Gr.trans ?_ (by with_reducible assumption)))⟩
set_option maxHeartbeats 1000000 in
theorem cut_yes (s : ByteArray) (k : Nat) (hk : k < s.size) (hm : s.size ≤ 140737488355328) (hi : indexByte s.data.toList 47 = k) (w : World) :
    Calls Tryd.prog 28 #[.string s, .string ⟨#[47]⟩] w fun e w' => e = .returned (.tuple #[.string (s.extract 0 k), .string (s.extract (k + 1) s.size), .bool true]) ∧ Gr w w' := by
  have HC := Lib.hid (fun w => lcut_yes s k w hk hm hi)
  clear hi
  go_enter Tryd.func28, Tryd.ntmps28
  go_wp2_with (go_at_call 41; with_reducible refine (HC.out _).mono ?_; rintro e w1 ⟨rfl, hg1⟩; obtain ⟨hc1, hf1⟩ := hg1.cells; have hz1 := hg1.size; (try simp at hz1); (try have hl1_0_0 : w.heap.size < w1.heap.size := by omega); (try have hm1_0_0 : w.heap.size ≤ w1.heap.size := by omega); (try have hl1_0_1 : w.heap.size + 1 < w1.heap.size := by omega); (try have hl1_0_2 : w.heap.size + 2 < w1.heap.size := by omega))
  go_ret3
  exact ⟨rfl, (by repeat (first | with_reducible exact Gr.refl _ | with_reducible assumption | refine Gr.setCell ?_ (by first | omega | (simp; done) | (simp; omega)) _ | refine Gr.alloc ?_ _ | refine Gr.drew ?_ | refine Gr.drewN ?_ _ | refine Gr.trans ?_ (by with_reducible assumption)))⟩
end Go.Proofs.YtclfiaemjdflbaaDoor
