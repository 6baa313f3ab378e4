
/-
  Contract of Format of package timecode.
  Conditions: the arguments are integers of their kinds.
-/
import Derived.Test.YtgbiodnfpbhjiaaGreatDoorWalk19G
import Derived.OwnWalk
import Derived.Laws.IdiomStrings
namespace Go.Proofs.YtgbiodnfpbhjiaaGreatDoor.C19
open Go.RowKit
set_option linter.unusedSimpArgs false
set_option linter.unusedVariables false

/-- the bytes of a timecode's text -/
def fmtL (h m s f : Int) (d : Bool) : List Int := [48 + h / 10, 48 + h % 10, 58, 48 + m / 10, 48 + m % 10, 58, 48 + s / 10, 48 + s % 10, if d then 59 else 58, 48 + f / 10, 48 + f % 10]
def fmtS (h m s f : Int) (d : Bool) : ByteArray := ⟨((fmtL h m s f d).map fun x => UInt8.ofNat x.toNat).toArray⟩
theorem fmt_byte {x : Int} (h0 : 0 ≤ x) (h1 : x < 256) : ((UInt8.ofNat x.toNat).toNat : Int) = x := by
  simp [UInt8.toNat_ofNat]; omega
theorem fmt_small {h m s f : Int} {d : Bool} (h1 : 0 ≤ h ∧ h < 60) (h2 : 0 ≤ m ∧ m < 60) (h3 : 0 ≤ s ∧ s < 60) (h4 : 0 ≤ f ∧ f < 60) : ∀ x ∈ fmtL h m s f d, 0 ≤ x ∧ x < 256 := by
  intro x hx
  simp [fmtL] at hx
  rcases hx with rfl | rfl | rfl | rfl | rfl | rfl | rfl | rfl | rfl | rfl | rfl <;> (first | omega | (split <;> omega))
theorem infoU8 : (Tryz.prog.info? 5).map (fun i => (i.zero, i.size, i.bytes)) = some (some (.int .u8 0), 1, 1) := by kernel_rfl

theorem format_conv (L : List Int) (hL : ∀ x ∈ L, 0 ≤ x ∧ x < 256) (w : World) (base g n cap : Nat) (hn : L.length = n)
    (hown : w.ownsRow base 5 1 (.slice (some ⟨g, 0, none⟩) n cap) n (L.map (Value.int .u8))) :
    (convert 51 9 (.slice (some ⟨g, 0, none⟩) n cap)).run Tryz.prog w = .ok (.string ⟨(L.map fun x => UInt8.ofNat x.toNat).toArray⟩) w := by
  subst hn
  have := run_convert_bytes_back (P := Tryz.prog) w 51 9 5 ⟨g, 0, none⟩ cap (L.map fun x => UInt8.ofNat x.toNat) (by kernel_rfl) (by kernel_rfl) (by kernel_rfl) (fun j hj => by
    refine hown.cells rfl j _ ?_
    simp at hj
    simp only [List.getElem?_map, List.getElem_map]
    rw [List.getElem?_eq_getElem hj]
    have hb := hL _ (List.getElem_mem hj)
    simp only [Option.map_some]
    rw [fmt_byte hb.1 hb.2])
  simpa using this

theorem format_no (h m s f b : Int) (d : Bool) (E : Int) (w : World) (hE : E = 1 ∨ E = 2)
    (H : ∀ w, Calls Tryz.prog 176 #[.agg #[.int .i64 h, .int .i64 m, .int .i64 s, .int .i64 f, .int .i64 b, .bool d]] w fun e w' => e = .returned (.tuple #[.int .i64 0, .int .i64 E]) ∧ Gr w w') :
    Calls Tryz.prog 134 #[.agg #[.int .i64 h, .int .i64 m, .int .i64 s, .int .i64 f, .int .i64 b, .bool d]] w fun e w' => e = .returned (.tuple #[.string ByteArray.empty, .int .i64 E]) ∧ Gr w w' := by
  have HN := Lib.hid H
  clear H
  rcases hE with rfl | rfl
  all_goals
    go_enter Tryz.func134, Tryz.ntmps134
    go_wp2_with (go_at_call 176; refine (HN.out _).mono ?_; rintro e w1 ⟨rfl, hg1⟩; obtain ⟨hc1, hf1⟩ := hg1.cells; have hz1 := hg1.size; (try simp at hz1); (try have hl1_0_0 : w.heap.size < w1.heap.size := by omega); (try have hm1_0_0 : w.heap.size ≤ w1.heap.size := by omega); (try have hl1_0_1 : w.heap.size + 1 < w1.heap.size := by omega); (try have hl1_0_2 : w.heap.size + 2 < w1.heap.size := by omega))
    simp [bodyPost, results, Tryz.results134, go_sem]
    exact ⟨rfl, (by repeat (first | refine Gr.setCell ?_ (by first | omega | (simp; done) | (simp; omega)) _ | refine Gr.alloc ?_ _ | refine Gr.drew ?_ | refine Gr.drewN ?_ _ | with_reducible assumption | with_reducible exact Gr.refl _ | refine Gr.trans ?_ (by with_reducible assumption)))⟩
end Go.Proofs.YtgbiodnfpbhjiaaGreatDoor.C19
