/-
  Contracts of captions.key, and of slices.Insert at nil. Clone and Cut of package captions with what their lines' memory is.
  Conditions: the lines lie in memory, in a row that has room for them.
-/
import Derived.Test.YthadhmhbbfjomaaGreatDoorCarM
import Derived.Test.YthadhmhbbfjomaaGreatDoorFint
import Derived.Test.YthadhmhbbfjomaaGreatDoorWalkCu
import Derived.Test.YthadhmhbbfjomaaGreatDoorMathP
import Derived.WalkSpells
namespace Go.Proofs.YthadhmhbbfjomaaGreatDoor
open Go.RowKit Go.Lib
set_option linter.unusedSimpArgs false
set_option linter.unusedVariables false

/-- a slice that is no longer than its room -/
def FitS (v : Value) : Prop := ∀ a n cap, v = .slice a n cap → n ≤ cap
theorem itoa_short20 {n : Int} (h0 : 0 ≤ n) (h1 : n ≤ 9223372036854775807) : (itoa n).length ≤ 20 := by
  unfold itoa
  rw [if_neg (by omega)]
  have := dec_short n.natAbs (by omega)
  have e : n.toNat = n.natAbs := by omega
  rw [e]
  omega
theorem keyL_ba (e : Int) (ss : List ByteArray) : (⟨(itoa e).toArray⟩ : ByteArray) ++ ⟨#[10]⟩ ++ ⟨(join (ss.map (·.data.toList)) [10]).toArray⟩ = ⟨(keyL e (ss.map fun s => s.data.toList)).toArray⟩ := ba_ext (by simp [keyL])
set_option maxHeartbeats 4000000 in
theorem key_any (e : Int) (a : Option Addr) (cap : Nat) (ss : List ByteArray) (w : World) (hT : Pow w) (h0 : 0 ≤ e) (h1 : e < 1000) (hS : StrsR w (.slice a ss.length cap) ss) (hcap : ss.length ≤ cap) (hn : 0 < ss.length) (hN : ss.length ≤ 1000) (hs : (join (ss.map (·.data.toList)) [10]).length ≤ 100000) :
    Calls Tryz.prog 33 #[.int .i64 e, .slice a ss.length cap] w fun x w' => x = .returned (.string ⟨(keyL e (ss.map fun s => s.data.toList)).toArray⟩) ∧ Gr w w' := by
  obtain ⟨b, o, c2, hv, hb, hc⟩ := Rd.addr hS hn
  injection hv with hv1 hv2 hv3
  subst hv1 hv3
  clear hv2
  have hi := (itoa_small h0 h1).2
  have hil := itoa_short20 h0 (by omega)
  have HF : Hid (∀ w', Gr w w' → Calls Tryz.prog 61 #[.int .i64 e, .int .i64 10] w' fun x w'' => x = .returned (.string ⟨(itoa e).toArray⟩) ∧ Gr w' w'') := fun w' hg => fint_any e w' (hT.gr hg) (by omega) (by omega)
  have HJ : Hid (∀ w', Gr w w' → Calls Tryz.prog 62 #[.slice (some ⟨b, o, none⟩) ss.length cap, .string ⟨#[10]⟩] w' fun x w'' => x = .returned (.string ⟨(join (ss.map (·.data.toList)) [10]).toArray⟩) ∧ Gr w' w'') := fun w' hg => by
    refine (Tryz.strings_Join b o cap ss ⟨#[10]⟩ w' (fun j x hj => ?_) (Nat.lt_of_lt_of_le hb hg.size) (by omega) hcap (Nat.le_trans hs (by omega))).mono fun x w'' ⟨hx, hg'⟩ => ⟨hx, hg'⟩
    have := hc j (.string x) (by simp [hj])
    exact (hg.cells.1 _ _ hb).trans this
  have hsz1 : (⟨(itoa e).toArray⟩ : ByteArray).size ≤ 20 := by show (itoa e).toArray.size ≤ 20; simpa using hil
  have hsz2 : (⟨(join (ss.map (·.data.toList)) [10]).toArray⟩ : ByteArray).size ≤ 100000 := by show (List.toArray _).size ≤ 100000; simpa using hs
  have hk := keyL_ba e ss
  have hk := Lib.hid hk
  clear hT hS hc hi hil hs hN
  generalize (⟨(itoa e).toArray⟩ : ByteArray) = A at *
  generalize (⟨(join (ss.map (·.data.toList)) [10]).toArray⟩ : ByteArray) = B at *
  generalize (⟨(keyL e (ss.map fun s => s.data.toList)).toArray⟩ : ByteArray) = K at *
  have e1 : ∀ (P : Program) (w : World), (Op.stringOp .add A ⟨#[10]⟩).run P w = .ok (.string (A ++ ⟨#[10]⟩)) w := fun P w => run_string_add_sum w A ⟨#[10]⟩ (by show A.size + 1 ≤ _; omega)
  have e2 : ∀ (P : Program) (w : World), (Op.stringOp .add (A ++ ⟨#[10]⟩) B).run P w = .ok (.string (A ++ ⟨#[10]⟩ ++ B)) w := fun P w => run_string_add_sum w _ B (by rw [ByteArray.size_append]; show A.size + 1 + B.size ≤ _; omega)
  go_enter Tryz.func33, Tryz.ntmps33
  go_wp2_with (first
    | (go_at_call 61; (with_reducible refine (HF.out _ ?_).mono ?_); (· exact (by repeat (first | with_reducible exact Gr.refl _ | with_reducible assumption | refine Gr.setCell ?_ (by first | omega | (simp; done) | (simp; omega)) _ | refine Gr.alloc ?_ _ | refine Gr.drew ?_ | refine Gr.drewN ?_ _ | refine Gr.trans ?_ (by with_reducible assumption)))); rintro x w1 ⟨rfl, hg1⟩)
    | (go_at_call 62; (with_reducible refine (HJ.out _ ?_).mono ?_); (· exact (by repeat (first | with_reducible exact Gr.refl _ | with_reducible assumption | refine Gr.setCell ?_ (by first | omega | (simp; done) | (simp; omega)) _ | refine Gr.alloc ?_ _ | refine Gr.drew ?_ | refine Gr.drewN ?_ _ | refine Gr.trans ?_ (by with_reducible assumption)))); rintro x w2 ⟨rfl, hg2⟩))
  go_ret
  exact ⟨rfl, (by repeat (first | with_reducible exact Gr.refl _ | with_reducible assumption | refine Gr.setCell ?_ (by first | omega | (simp; done) | (simp; omega)) _ | refine Gr.alloc ?_ _ | refine Gr.drew ?_ | refine Gr.drewN ?_ _ | refine Gr.trans ?_ (by with_reducible assumption)))⟩
theorem infoIntF : (Tryz.prog.info? 3).map (fun i => (i.zero, i.size, i.bytes)) = some (some (.int .i64 0), 1, 8) := by kernel_rfl
theorem insert_nil (bs c : Nat) (i : Int) (w : World) (hR : Rd w (.slice (some ⟨bs, 0, none⟩) 1 c) 1 1 [.int .i64 i]) :
    Calls Tryz.prog 64 #[.slice none 0 0, .int .i64 0, .slice (some ⟨bs, 0, none⟩) 1 c] w fun x w' => ∃ g cap r, x = .returned (.slice (some ⟨g, 0, none⟩) 1 cap) ∧ CapOk cap ∧ w.heap.size ≤ g ∧ Blk w' g 3 (.int .i64 i :: r) ∧ Gr w w' := by
  obtain ⟨is, his, hs0, hs1, hs2⟩ := info_parts infoIntF
  have hR := Lib.hid hR
  go_enter Tryz.func64, Tryz.ntmps64
  go_wp2_with (at_builtin; refine wpList_append_rd rfl (.tmp 23) (.tmp 24) 22 rfl w.heap.size 3 is (.int .i64 0) 1 8 (by kernel_rfl) his hs0 hs1 hs2 rfl (by decide) _ 0 [] rfl (World.ownsRow_nil _ _ _ _) _ 1 [.int .i64 i] rfl hR.out ?_ ?_ ?_ ?_ ?_; (· intro u hu; simp at hu; rw [hu]; rfl); (· unfold maxLen; omega); (· omega); (· exact Nat.le_refl _); intro lv w2 hown2 hgrow2)
  go_ret
  obtain ⟨hl, h | ⟨g, cap, cur, rfl, h1, h2, h3, h4, h5, h6⟩⟩ := hown2
  · omega
  · obtain ⟨r, hr⟩ : ∃ r, cur.toList = .int .i64 i :: r := by
      cases hc : cur.toList with
      | nil => rw [hc] at h6; simp at h6
      | cons y r => rw [hc] at h6; simp at h6; exact ⟨r, by rw [h6]⟩
    refine ⟨g, cap, r, rfl, ⟨h3, h4⟩, h1, ?_, ⟨hgrow2.os, hgrow2.tape, hgrow2.output, hgrow2.size, fun k hk => hgrow2.block k hk (show some k ≠ none from by simp)⟩⟩
    unfold Blk
    rw [← hr]
    exact h2
end Go.Proofs.YthadhmhbbfjomaaGreatDoor
