
/-
  Contracts of strings.Repeat at a zero digit, at most two; of padded.
  Conditions: the number is not negative and below a thousand.
-/
import Derived.Test.YthadhmhbbfjomaaGreatDoorFint
namespace Go.Proofs.YthadhmhbbfjomaaGreatDoor
open Go.RowKit Go.Lib
set_option linter.unusedSimpArgs false
set_option linter.unusedVariables false

theorem ret_str {a b : ByteArray} (h : a = b) : Ending.returned (.string a) = .returned (.string b) := by rw [h]
set_option maxRecDepth 100000 in
set_option maxHeartbeats 2000000 in
theorem repeat_0 (w : World) : Calls Tryz.prog 90 #[.string ⟨#[48]⟩, .int .i64 0] w fun e w' => e = .returned (.string ⟨#[]⟩) ∧ Gr w w' := by
  go_enter Tryz.func90, Tryz.ntmps90
  go_wp2
  go_ret
  exact ⟨rfl, (by repeat (first | with_reducible exact Gr.refl _ | with_reducible assumption | refine Gr.setCell ?_ (by first | omega | (simp; done) | (simp; omega)) _ | refine Gr.alloc ?_ _ | refine Gr.drew ?_ | refine Gr.drewN ?_ _ | refine Gr.trans ?_ (by with_reducible assumption)))⟩
set_option maxRecDepth 100000 in
set_option maxHeartbeats 2000000 in
theorem repeat_1 (w : World) : Calls Tryz.prog 90 #[.string ⟨#[48]⟩, .int .i64 1] w fun e w' => e = .returned (.string ⟨#[48]⟩) ∧ Gr w w' := by
  go_enter Tryz.func90, Tryz.ntmps90
  go_wp2
  go_ret
  exact ⟨rfl, (by repeat (first | with_reducible exact Gr.refl _ | with_reducible assumption | refine Gr.setCell ?_ (by first | omega | (simp; done) | (simp; omega)) _ | refine Gr.alloc ?_ _ | refine Gr.drew ?_ | refine Gr.drewN ?_ _ | refine Gr.trans ?_ (by with_reducible assumption)))⟩
set_option maxHeartbeats 1000000 in
theorem hp_any (t : ByteArray) (b : Bool) (w : World) (h1 : 1 ≤ t.size) (h2 : t.size ≤ 1000) (h3 : ((t.extract 0 1).toList == [48]) = b) :
    Calls Tryz.prog 112 #[.string t, .string ⟨#[48]⟩] w fun e w' => e = .returned (.bool b) ∧ w = w' := by
  have q : decide ((1 : Int) ≤ t.size) = true := decide_eq_true (by omega)
  have q2 : decide (1 ≤ t.size) = true := decide_eq_true (by omega)
  go_enter Tryz.func112, Tryz.ntmps112
  go_wp2
  go_ret
  exact ⟨by rw [← h3]; rfl, rfl⟩
set_option maxRecDepth 100000 in
set_option maxHeartbeats 4000000 in
theorem repeat_2 (w : World) : Calls Tryz.prog 90 #[.string ⟨#[48]⟩, .int .i64 2] w fun e w' => e = .returned (.string ⟨#[48, 48]⟩) ∧ Gr w w' := by
  have HM : Hid (∀ w, Calls Tryz.prog 111 #[.int .u64 1, .int .u64 2] w fun e w' => e = .returned (.tuple #[.int .u64 0, .int .u64 2]) ∧ w = w') := fun w => (Tryz.bits_Mul 1 2 (by decide) (by decide) w).mono fun e w' ⟨h1, h2⟩ => ⟨h1, h2.symm⟩
  have hz : ((⟨#[48]⟩ : ByteArray)[0]'(by decide)).toNat = 48 := rfl
  go_enter Tryz.func90, Tryz.ntmps90
  go_wp2_with (first
    | (go_at_call 111; (with_reducible refine (HM.out _).mono ?_); rintro e w1 ⟨rfl, rfl⟩)
    | (go_at_call 112; (refine (hp_any _ false _ ?_ ?_ ?_).mono ?_); (· decide +kernel); (· decide +kernel); (· decide +kernel); rintro e w1 ⟨rfl, rfl⟩)
    | (go_at_call 112; (refine (hp_any _ true _ ?_ ?_ ?_).mono ?_); (· decide +kernel); (· decide +kernel); (· decide +kernel); rintro e w1 ⟨rfl, rfl⟩))
  go_ret
  exact ⟨ret_str (by decide +kernel), (by repeat (first | with_reducible exact Gr.refl _ | with_reducible assumption | refine Gr.setCell ?_ (by first | omega | (simp; done) | (simp; omega)) _ | refine Gr.alloc ?_ _ | refine Gr.drew ?_ | refine Gr.drewN ?_ _ | refine Gr.trans ?_ (by with_reducible assumption)))⟩

/-- a number with a number of digits at least -/
def padL (wd : Nat) (n : Int) : List UInt8 := List.replicate (wd - (itoa n).length) 48 ++ itoa n
theorem itoa_len : ∀ n : Fin 1000, 1 ≤ (itoa n).length ∧ (n.1 < 100 → (itoa n).length ≤ 2) ∧ (itoa n).length ≤ 3 := by decide +kernel
set_option maxHeartbeats 2000000 in
theorem pad_core (c : Nat) (wd L : Nat) (n : Int) (l : List UInt8) (w : World) (hT : Pow w) (hl : l.length = L) (hL : L ≤ 3) (hc : wd = c + L) (hc2 : c ≤ 2) (hwd : wd ≤ 3)
    (HF : ∀ w, Pow w → Calls Tryz.prog 61 #[.int .i64 n, .int .i64 10] w fun e w' => e = .returned (.string ⟨l.toArray⟩) ∧ Gr w w')
    (HR : ∀ w, Calls Tryz.prog 90 #[.string ⟨#[48]⟩, .int .i64 c] w fun e w' => e = .returned (.string ⟨(List.replicate c 48).toArray⟩) ∧ Gr w w') :
    Calls Tryz.prog 69 #[.int .i64 n, .int .i64 wd] w fun e w' => e = .returned (.string ⟨(List.replicate c 48 ++ l).toArray⟩) ∧ Gr w w' := by
  have HF := Lib.hid HF
  have HR := Lib.hid HR
  have hT := Lib.hid hT
  have hm : (if (0 : Int) < (wd : Int) - (l.length : Int) then (wd : Int) - (l.length : Int) else 0) = c := by split <;> omega
  have hw1 : wrap64 ((wd : Int) - (l.length : Int)) = (wd : Int) - (l.length : Int) := by unfold wrap64; omega
  go_enter Tryz.func69, Tryz.ntmps69
  go_wp2_with (first
    | (go_at_call 61; (with_reducible refine (HF.out _ hT.out).mono ?_); rintro e w1 ⟨rfl, hg1⟩)
    | (go_at_call 90; (refine (HR.out _).mono ?_); rintro e w2 ⟨rfl, hg2⟩))
  go_ret
  exact ⟨ret_str (ba_ext (by simp)), (by repeat (first | with_reducible exact Gr.refl _ | with_reducible assumption | refine Gr.setCell ?_ (by first | omega | (simp; done) | (simp; omega)) _ | refine Gr.alloc ?_ _ | refine Gr.drew ?_ | refine Gr.drewN ?_ _ | refine Gr.trans ?_ (by with_reducible assumption)))⟩
theorem pad_any (wd : Nat) (n : Int) (w : World) (hT : Pow w) (h0 : 0 ≤ n) (hw : (wd = 2 ∧ n < 100) ∨ (wd = 3 ∧ n < 1000)) :
    Calls Tryz.prog 69 #[.int .i64 n, .int .i64 wd] w fun e w' => e = .returned (.string ⟨(padL wd n).toArray⟩) ∧ Gr w w' := by
  have h3 := itoa_len ⟨n.toNat, by omega⟩
  have hn : ((⟨n.toNat, by omega⟩ : Fin 1000) : Int) = n := by show ((n.toNat : Nat) : Int) = n; omega
  have h4 : 1 ≤ (itoa n).length ∧ (n < 100 → (itoa n).length ≤ 2) ∧ (itoa n).length ≤ 3 := by
    have e : (itoa ((⟨n.toNat, by omega⟩ : Fin 1000) : Int)) = itoa n := by rw [hn]
    rw [← e]
    exact ⟨h3.1, fun h => h3.2.1 (by show n.toNat < 100; omega), h3.2.2⟩
  have HF : ∀ w, Pow w → Calls Tryz.prog 61 #[.int .i64 n, .int .i64 10] w fun e w' => e = .returned (.string ⟨(itoa n).toArray⟩) ∧ Gr w w' := fun w hT => fint_any n w hT (by omega) (by omega)
  unfold padL
  obtain ⟨L, hL⟩ : ∃ L, (itoa n).length = L := ⟨_, rfl⟩
  rw [hL] at h4 ⊢
  have hc : wd - L = 0 ∨ wd - L = 1 ∨ wd - L = 2 := by omega
  rcases hc with hc | hc | hc
  · rw [hc]; exact pad_core 0 wd L n _ w hT hL h4.2.2 (by omega) (by omega) (by omega) HF repeat_0
  · rw [hc]; exact pad_core 1 wd L n _ w hT hL h4.2.2 (by omega) (by omega) (by omega) HF repeat_1
  · rw [hc]; exact pad_core 2 wd L n _ w hT hL h4.2.2 (by omega) (by omega) (by omega) HF repeat_2
end Go.Proofs.YthadhmhbbfjomaaGreatDoor
