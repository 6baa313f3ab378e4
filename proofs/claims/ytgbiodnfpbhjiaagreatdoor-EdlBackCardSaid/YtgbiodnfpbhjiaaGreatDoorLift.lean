import Derived.Test.YtgbiodnfpbhjiaaGreatDoorRows
import Derived.Test.YtgbiodnfpbhjiaaGreatDoorFint
import Derived.ProofKit
import Derived.LaidMore
import Derived.LaidOnce
import Derived.Stop.LaidErr
import Derived.Test.YtgbiodnfpbhjiaaGreatDoorKit
import Derived.Lib.SmallJoins
import Derived.Test.YtgbiodnfpbhjiaaGreatDoorWalkVa
import Derived.Test.YtgbiodnfpbhjiaaGreatDoorWalkTp
import Derived.Deep.Slices
import Derived.Deep.Strs
import Derived.SliceStrings
import Derived.ChangeSlices
import Derived.SizedLaws
import Derived.Laws.LoneSync
import Derived.Test.YtgbiodnfpbhjiaaGreatDoorWalkEe
import Derived.OpenShut
import Derived.Carry
/-
  What the rows' condition on the laid variables gives a walk of chapter 30.
  Conditions: none.
-/
namespace Go.Proofs.YtgbiodnfpbhjiaaGreatDoor
open Go.ChangeShapes Go.WideShapes Go.ChangeAt Go.RowKit
set_option linter.unusedVariables false

def laid30 : List (String × DataW Unit) := [("math/bits.deBruijn32tab", Rows.laid_math_bits_deBruijn32tab), ("math/bits.deBruijn64tab", Rows.laid_math_bits_deBruijn64tab), ("internal/strconv.uint64pow10", Rows.laid_internal_strconv_uint64pow10)]
theorem laid30_met (os : Os) (args : Array Value) : laidMetH Tryz.prog laid30 ((World.doorLaid Tryz.prog 72 os).forCall (fun _ _ => 0) ⟨#[], args, []⟩).memory :=
  laidMetH_of_parts3 (fuel := 8) (laidMet_of_run' 8 (by kernel_rfl) (by kernel_rfl)) (by kernel_rfl) (by kernel_rfl)
theorem powTab : Rows.laid_internal_strconv_uint64pow10 (H := Unit) = Lib.tabData .u64 Lib.pow10Tab := by
  unfold Rows.laid_internal_strconv_uint64pow10 Lib.tabData Lib.pow10Tab
  simp [List.range, List.range.loop]
theorem pow_of_laid {W : World} (h : laidMetH Tryz.prog laid30 W) : Pow W := by
  rw [MakeChecks.laidMetH_plain _ _ _ (by kernel_rfl)] at h
  exact Lib.tabIs_of_head (g := 1) (by kernel_rfl) (by kernel_rfl) Tryz.underlying278 Tryz.underlying114 (by kernel_rfl) (by kernel_rfl) (by rw [← powTab]; exact laidMet.tail (laidMet.tail h))
end Go.Proofs.YtgbiodnfpbhjiaaGreatDoor

/-
  Arguments as the reading hands them over: a list of strings, of numbers, of captions.
  Conditions: none.
-/
namespace Go.Proofs.YtgbiodnfpbhjiaaGreatDoor
open Go.ChangeShapes Go.WideShapes Go.RowKit Go.Joins Go.Deep
set_option linter.unusedVariables false

theorem weightsAll_mem {H : Type} {P : Program} {e : TypeId} : ∀ {ds : List (DataW H)} {d : DataW H}, d ∈ ds → ∀ n ∈ d.weights P e, n ∈ DataW.weightsAll P e ds
  | d0 :: ds, d, hd, n, hn => by
    simp only [DataW.weightsAll, List.mem_append]
    rcases List.mem_cons.1 hd with rfl | h
    · exact .inl hn
    · exact .inr (weightsAll_mem h n hn)
theorem list_by {α : Type} {p : Nat → α → Prop} : ∀ (n : Nat), (∀ i, i < n → ∃ c, p i c) → ∃ l : List α, l.length = n ∧ ∀ (i : Nat) (hi : i < l.length), p i l[i]
  | 0, _ => ⟨[], rfl, fun i hi => by cases hi⟩
  | n + 1, h => by
    obtain ⟨l, hl, hp⟩ := list_by n (fun i hi => h i (by omega))
    obtain ⟨c, hc⟩ := h n (by omega)
    refine ⟨l ++ [c], by simp [hl], fun i hi => ?_⟩
    rcases Nat.lt_or_ge i l.length with h1 | h1
    · rw [List.getElem_append_left h1]; exact hp i h1
    · have : i = n := by simp at hi; omega
      subst this
      rw [List.getElem_append_right h1]
      simpa [hl] using hc
theorem cell_in {w : World} {a : Addr} {v : Value} (h : w.cell? a = some v) : a.block < w.heap.size := by
  unfold World.cell? at h
  cases hb : w.heap[a.block]? with
  | none => rw [hb] at h; cases h
  | some b => exact (Array.getElem?_eq_some_iff.1 hb).1
/-- a slice whose elements lie one behind the other -/
theorem rd_open {w : World} {a : Addr} {len cap size : Nat} {xs : List Value} (hs0 : 0 < size) (hx : xs.length = len * size) (hc : ∀ j u, xs[j]? = some u → w.cell? (a.add j) = some u) : Rd w (.slice (some a) len cap) len size xs := by
  refine ⟨hx, some a, cap, rfl, ?_⟩
  rcases Nat.eq_zero_or_pos len with h | h
  · exact .inl ⟨h, fun h => by cases h⟩
  have h0 : 0 < xs.length := by rw [hx]; exact Nat.mul_pos h hs0
  have h1 := hc 0 xs[0] (by simp)
  rw [show a.add 0 = a by simp [Addr.add]] at h1
  obtain ⟨_, _, _, _, hs⟩ := World.shape?_of_cell? h1
  obtain ⟨b, o, s⟩ := a
  simp at hs
  subst hs
  exact .inr ⟨b, o, rfl, cell_in h1, fun j u hj => by simpa [Addr.add_lit] using hc j u hj⟩

section
variable {H : Type} {enc : TypeId × Value → H} {w : World} {base : Nat} {sp : Nat → Bool} {held : Bool} {fuel : Nat}
theorem ints_open {v : Value} {x : DataW H × List MemPlace} (h : DataW.trod enc Tryz.prog w base sp held fuel 25 [v] = some x) (hw : ∀ n ∈ x.1.weights Tryz.prog 25, n ≤ reachBytes) :
    ∃ (a : Option Addr) (cap : Nat) (xs : List Int), v = .slice a xs.length cap ∧ TapeArg w a cap xs := by
  rcases open_ints Tryz.underlying25 Tryz.underlying3 (by kernel_rfl) h with ⟨e, rfl⟩ | ⟨a, len, cap, zs, e, hb, hlc, hcm, hlen, rfl, hcell, hwf⟩
  · simp at e; subst e
    exact ⟨none, 0, [], rfl, ⟨Rd.nil w 1, fun s hs => (by cases hs), by simp⟩⟩
  simp at e; subst e
  have hle : len ≤ zs.length := by rw [hlen]; split <;> omega
  have hz : (zs.take len).length = len := by simp [hle]
  have hu : Tryz.prog.underlying 25 = some (.slice 3) := Tryz.underlying25
  have hb8 : Tryz.prog.bytesOf 3 = 8 := by kernel_rfl
  refine ⟨some a, cap, zs.take len, by rw [hz], ?_, ?_, ?_⟩
  · rw [hz]
    refine rd_open (by omega) (by simp [hle]) fun j u hj => ?_
    have hj2 : j < len := by
      have := (List.getElem?_eq_some_iff.1 hj).1
      simp at this; omega
    have h2 := hcell j (by omega)
    rw [h2]
    rw [List.getElem?_map, List.getElem?_take, if_pos hj2, List.getElem?_eq_getElem (show j < zs.length by omega)] at hj
    simp at hj
    rw [List.getD_eq_getElem?_getD, List.getElem?_eq_getElem (show j < zs.length by omega)]
    simp [hj]
  · intro n hn
    have := hwf n (List.mem_of_mem_take hn)
    simp [Lit.wf, IntKind.min, IntKind.max, IntKind.signed, IntKind.bits] at this
    omega
  · rw [hz]
    have := hw ((lits (H := H) .i64 (zs.take len)).length * 8 + (lits (H := H) .i64 (zs.drop len)).length * 8) (by
      simp only [DataW.weights, hu, hb8, Nat.add_mul]
      exact List.mem_cons_self ..)
    unfold reachBytes lits at this
    simp at this
    omega
end
/-- the weights of one argument, out of those of all -/
theorem weight_at {H : Type} {P : Program} {ts : List TypeId} {ds : List (DataW H)} (h : (DataW.weightsEach P ts ds).all (· ≤ reachBytes) = true) (j : Nat) {t : TypeId} {d : DataW H} (ht : ts[j]? = some t) (hd : ds[j]? = some d) : ∀ n ∈ d.weights P t, n ≤ reachBytes := by
  intro n hn
  simpa using List.all_eq_true.1 h _ (DataW.weights_mem_each ht hd n hn)
end Go.Proofs.YtgbiodnfpbhjiaaGreatDoor

/-
  A struct of one-cell fields, by value: its fields one by one, however many. No program in sight.
  Conditions: none.
-/
namespace Go.Proofs.YtgbiodnfpbhjiaaGreatDoor
open Go.ChangeShapes Go.WideShapes Go.ChangeAt Go.RowKit Go.Joins Go.Deep
end Go.Proofs.YtgbiodnfpbhjiaaGreatDoor

/-
  Arguments as the reading hands them over: an edit decision list.
  Conditions: none.
-/
namespace Go.Proofs.YtgbiodnfpbhjiaaGreatDoor
open Go.ChangeShapes Go.WideShapes Go.ChangeAt Go.RowKit Go.Joins Go.Deep
set_option linter.unusedVariables false

section
variable {H : Type} {enc : TypeId × Value → H} {P : Program} {w : World} {base : Nat} {sp : Nat → Bool} {held : Bool} {fuel : Nat}
end
section
variable {H : Type} {enc : TypeId × Value → H} {w : World} {base : Nat} {sp : Nat → Bool} {held : Bool} {fuel : Nat}
end
end Go.Proofs.YtgbiodnfpbhjiaaGreatDoor

/-
  From a law's walk to its row: the call returns true, its arguments read as they did.
  Conditions: none.
-/
namespace Go.Proofs.YtgbiodnfpbhjiaaGreatDoor
open Go.ChangeShapes Go.WideShapes Go.ChangeAt Go.RowKit Go.Joins

theorem own : ownKnob Tryz.prog.godebug = none := by kernel_rfl
theorem laidOut : laidOutB Tryz.prog = true := by kernel_rfl

theorem trodAll_below {H : Type} {enc : TypeId × Value → H} {P : Program} (hl : laidOutB P = true) {W W' : World} (hb : Below W.heap.size W W') :
    ∀ (ts : List TypeId) (vs : List Value) (ds : List (DataW H)) (ps : List MemPlace), ts.all (fun t => P.readableRec t && decide (t < P.types.size)) = true →
      (∀ x ∈ ps, x.block < W.heap.size) → DataW.TrodAll enc P W 0 (fun _ => true) true ts vs ds ps → DataW.TrodAll enc P W' 0 (fun b => decide (b < W.heap.size)) true ts vs ds ps
  | [], vs, ds, ps, _, _, h => by
    obtain ⟨rfl, rfl, rfl⟩ := trodAll_nil h
    exact trodAll_mk0
  | t :: ts, vs, ds, ps, ht, hlt, h => by
    obtain ⟨v, vs', d, ds', p, q, rfl, rfl, rfl, h1, h2⟩ := trodAll_cons h
    simp only [List.all_cons, Bool.and_eq_true, decide_eq_true_eq] at ht
    exact trodAll_cons_mk (Below.trod hl ht.1.1 ht.1.2 h1 hb fun x hx => hlt x (List.mem_append.2 (.inl hx)))
      (trodAll_below hl hb ts vs' ds' q ht.2 (fun x hx => hlt x (List.mem_append.2 (.inr hx))) h2)

theorem law_post {H : Type} {enc : TypeId × Value → H} {P : Program} {f : Func} {s : ChangeSpec} {W W' : World} {args : Array Value} {ds gs : List (DataW H)} {before : List MemPlace} (tb : TypeId)
    (hl : laidOutB P = true) (hp : f.params.toList.all (fun t => P.readableRec t && decide (t < P.types.size)) = true) (hr : f.resultTypes = #[tb]) (hb : P.underlying tb = some .bool) (hv : s.vars = [])
    (h1 : (s.fn H (ds ++ gs)).results = [.lit (.bool true)]) (h2 : (s.fn H (ds ++ gs)).args = ds) (h3 : (s.fn H (ds ++ gs)).vars = [])
    (hW : DataW.Whole enc P f.params.toList s.vars false W args.toList ds gs before) (hg : Below W.heap.size W W') : s.post enc P f false true false false W args (.bool true) W' := by
  have hlt : ∀ p ∈ before, p.block < W.heap.size := fun p hp => hW.lt p hp
  have hW' := hW
  obtain ⟨p, q, hA, hV, rfl, _, _⟩ := hW
  refine ⟨ds, gs, p ++ q, [], p, [], hW', ?_, ?_, ?_, hg.frame _, fun h => by cases h⟩
  · rw [h1, hr]
    exact trodAll_mk1 (shut_bool hb _)
  · rw [h2]
    exact trodAll_below hl hg _ _ _ _ hp (fun x hx => hlt x (List.mem_append.2 (.inl hx))) hA
  · rw [h3, hv]
    rfl
end Go.Proofs.YtgbiodnfpbhjiaaGreatDoor
