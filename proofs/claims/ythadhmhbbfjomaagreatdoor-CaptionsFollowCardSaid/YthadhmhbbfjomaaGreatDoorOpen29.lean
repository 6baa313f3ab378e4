
/-
  Arguments as the reading hands them over: a list of strings, of numbers, of captions.
  Conditions: none.
-/
import Derived.Test.YthadhmhbbfjomaaGreatDoorKit
import Derived.Lib.SmallJoins
import Derived.Test.YthadhmhbbfjomaaGreatDoorWalkVa
import Derived.Test.YthadhmhbbfjomaaGreatDoorWalkTp
import Derived.Deep.Slices
import Derived.Deep.Strs
import Derived.SliceStrings
import Derived.ChangeSlices
import Derived.SizedLaws
import Derived.Laws.LoneSync
namespace Go.Proofs.YthadhmhbbfjomaaGreatDoor
open Go.ChangeShapes Go.WideShapes Go.RowKit Go.Joins Go.Deep
set_option linter.unusedVariables false

theorem weightsAll_mem {H : Type} {P : Program} {e : TypeId} : ∀ {ds : List (DataW H)} {d : DataW H}, d ∈ ds → ∀ n ∈ d.weights P e, n ∈ DataW.weightsAll P e ds
  | d0 :: ds, d, hd, n, hn => by
    simp only [DataW.weightsAll, List.mem_append]
    rcases List.mem_cons.1 hd with rfl | h
    · exact .inl hn
    · exact .inr (weightsAll_mem h n hn)
theorem list_by {α : Type} {p : Nat → α → Prop} : ∀ (n : Nat), (∀ i, i < n → ∃ c, p i c) → ∃ l : List α, l.length = n ∧ ∀ (i : Nat) (hi : i < l.length), p i l[i]
  | 0, _ => ⟨[], rfl, fun i hi => by cases hi⟩
  | n + 1, h => by
    obtain ⟨l, hl, hp⟩ := list_by n (fun i hi => h i (by omega))
    obtain ⟨c, hc⟩ := h n (by omega)
    refine ⟨l ++ [c], by simp [hl], fun i hi => ?_⟩
    rcases Nat.lt_or_ge i l.length with h1 | h1
    · rw [List.getElem_append_left h1]; exact hp i h1
    · have : i = n := by simp at hi; omega
      subst this
      rw [List.getElem_append_right h1]
      simpa [hl] using hc
theorem cell_in {w : World} {a : Addr} {v : Value} (h : w.cell? a = some v) : a.block < w.heap.size := by
  unfold World.cell? at h
  cases hb : w.heap[a.block]? with
  | none => rw [hb] at h; cases h
  | some b => exact (Array.getElem?_eq_some_iff.1 hb).1
/-- a slice whose elements lie one behind the other -/
theorem rd_open {w : World} {a : Addr} {len cap size : Nat} {xs : List Value} (hs0 : 0 < size) (hx : xs.length = len * size) (hc : ∀ j u, xs[j]? = some u → w.cell? (a.add j) = some u) : Rd w (.slice (some a) len cap) len size xs := by
  refine ⟨hx, some a, cap, rfl, ?_⟩
  rcases Nat.eq_zero_or_pos len with h | h
  · exact .inl ⟨h, fun h => by cases h⟩
  have h0 : 0 < xs.length := by rw [hx]; exact Nat.mul_pos h hs0
  have h1 := hc 0 xs[0] (by simp)
  rw [show a.add 0 = a by simp [Addr.add]] at h1
  obtain ⟨_, _, _, _, hs⟩ := World.shape?_of_cell? h1
  obtain ⟨b, o, s⟩ := a
  simp at hs
  subst hs
  exact .inr ⟨b, o, rfl, cell_in h1, fun j u hj => by simpa [Addr.add_lit] using hc j u hj⟩

section
variable {H : Type} {enc : TypeId × Value → H} {w : World} {base : Nat} {sp : Nat → Bool} {held : Bool} {fuel : Nat}
theorem strs_open {v : Value} {x : DataW H × List MemPlace} (h : DataW.trod enc Tryz.prog w base sp held fuel 44 [v] = some x) (hw : ∀ n ∈ x.1.weights Tryz.prog 44, n ≤ reachBytes) :
    ∃ ss : List ByteArray, StrsR w v ss ∧ ss.length ≤ 140737488355328 ∧ ∀ s ∈ ss, s.size ≤ 140737488355328 := by
  rcases open_strings Tryz.underlying44 Tryz.underlying9 (by kernel_rfl) h with ⟨e, rfl⟩ | ⟨a, len, cap, ss, e, hb, hlc, hcm, hlen, rfl, hcell, _⟩
  · simp at e; subst e
    exact ⟨[], StrsR.nil w, by simp, fun s hs => by cases hs⟩
  simp at e; subst e
  have hle : len ≤ ss.length := by rw [hlen]; split <;> omega
  have hz : (ss.take len).length = len := by simp [hle]
  have hu : Tryz.prog.underlying 44 = some (.slice 9) := Tryz.underlying44
  have hb16 : Tryz.prog.bytesOf 9 = 16 := by kernel_rfl
  refine ⟨ss.take len, ?_, ?_, ?_⟩
  · unfold StrsR
    rw [hz]
    refine rd_open (by omega) (by simp [hle]) fun j u hj => ?_
    have hj2 : j < len := by
      have := (List.getElem?_eq_some_iff.1 hj).1
      simp at this; omega
    have h2 := hcell j (by omega)
    rw [h2]
    rw [List.getElem?_map, List.getElem?_take, if_pos hj2, List.getElem?_eq_getElem (show j < ss.length by omega)] at hj
    simp at hj
    rw [List.getD_eq_getElem?_getD, List.getElem?_eq_getElem (show j < ss.length by omega)]
    simp [hj]
  · rw [hz]
    have := hw ((strs (H := H) (ss.take len)).length * 16 + (strs (H := H) (ss.drop len)).length * 16) (by
      simp only [DataW.weights, hu, hb16, Nat.add_mul]
      exact List.mem_cons_self ..)
    unfold reachBytes strs at this
    simp at this
    omega
  · intro s hs
    have := hw s.size (by
      simp only [DataW.weights, hu]
      refine List.mem_cons_of_mem _ (List.mem_append_left _ (weightsAll_mem (d := .lit (.string s.data.toList)) ?_ _ (by simp [DataW.weights])))
      unfold strs
      exact List.mem_map.2 ⟨s, hs, rfl⟩)
    unfold reachBytes at this
    omega
theorem ints_open {v : Value} {x : DataW H × List MemPlace} (h : DataW.trod enc Tryz.prog w base sp held fuel 22 [v] = some x) (hw : ∀ n ∈ x.1.weights Tryz.prog 22, n ≤ reachBytes) :
    ∃ (a : Option Addr) (cap : Nat) (xs : List Int), v = .slice a xs.length cap ∧ TapeArg w a cap xs := by
  rcases open_ints Tryz.underlying22 Tryz.underlying3 (by kernel_rfl) h with ⟨e, rfl⟩ | ⟨a, len, cap, zs, e, hb, hlc, hcm, hlen, rfl, hcell, hwf⟩
  · simp at e; subst e
    exact ⟨none, 0, [], rfl, ⟨Rd.nil w 1, fun s hs => (by cases hs), by simp⟩⟩
  simp at e; subst e
  have hle : len ≤ zs.length := by rw [hlen]; split <;> omega
  have hz : (zs.take len).length = len := by simp [hle]
  have hu : Tryz.prog.underlying 22 = some (.slice 3) := Tryz.underlying22
  have hb8 : Tryz.prog.bytesOf 3 = 8 := by kernel_rfl
  refine ⟨some a, cap, zs.take len, by rw [hz], ?_, ?_, ?_⟩
  · rw [hz]
    refine rd_open (by omega) (by simp [hle]) fun j u hj => ?_
    have hj2 : j < len := by
      have := (List.getElem?_eq_some_iff.1 hj).1
      simp at this; omega
    have h2 := hcell j (by omega)
    rw [h2]
    rw [List.getElem?_map, List.getElem?_take, if_pos hj2, List.getElem?_eq_getElem (show j < zs.length by omega)] at hj
    simp at hj
    rw [List.getD_eq_getElem?_getD, List.getElem?_eq_getElem (show j < zs.length by omega)]
    simp [hj]
  · intro n hn
    have := hwf n (List.mem_of_mem_take hn)
    simp [Lit.wf, IntKind.min, IntKind.max, IntKind.signed, IntKind.bits] at this
    omega
  · rw [hz]
    have := hw ((lits (H := H) .i64 (zs.take len)).length * 8 + (lits (H := H) .i64 (zs.drop len)).length * 8) (by
      simp only [DataW.weights, hu, hb8, Nat.add_mul]
      exact List.mem_cons_self ..)
    unfold reachBytes lits at this
    simp at this
    omega
theorem cues_open {v : Value} {x : DataW H × List MemPlace} (h : DataW.trod enc Tryz.prog w base sp held fuel 24 [v] = some x) (hw : ∀ n ∈ x.1.weights Tryz.prog 24, n ≤ reachBytes) :
    ∃ cs : List Cu, Cues w v cs := by
  have hu : Tryz.prog.underlying 24 = some (.slice 57) := Tryz.underlying24
  have hb40 : Tryz.prog.bytesOf 57 = 40 := by kernel_rfl
  have hc3 : Tryz.prog.cellsOf 57 = 3 := by kernel_rfl
  rcases open_slice hu h with ⟨e, rfl⟩ | ⟨a, len, cap, m, n, D, Pl, e, hb, hlc, hcm, hm, rfl, hel⟩
  · simp at e; subst e
    exact ⟨[], CuesR.nil w, fun c hc => (by cases hc), by simp⟩
  simp at e; subst e
  have hle : len ≤ m := by rw [hm]; split <;> omega
  rw [hc3] at hel
  have each : ∀ i, i < len → ∃ c : Cu, (w.cell? (a.add (i * 3)) = some (.int .i64 c.f) ∧ w.cell? (a.add (i * 3 + 1)) = some (.int .i64 c.t) ∧ w.cell? (a.add (i * 3 + 2)) = some c.lv) ∧ StrsR w c.lv c.ss ∧ CuOk c := by
    intro i hi
    obtain ⟨cs', h1, h2⟩ := hel i (by omega)
    obtain ⟨_, hl3, hce⟩ := World.cells?_some h1
    match cs', hl3 with
    | [c0, c1, c2], _ =>
    obtain ⟨y0, y1, y2, n', ey, _, t0, t1, t2⟩ := trod_struct3 Tryz.underlying57 h2
    have k1 : Tryz.prog.cellsOf 2 = 1 := by kernel_rfl
    have k2 : Tryz.prog.cellsOf 44 = 1 := by kernel_rfl
    simp [k1, k2] at t0 t1 t2
    obtain ⟨n0, e0, _, w0⟩ := DataW.trod_int Tryz.underlying2 t0
    obtain ⟨n1, e1, _, w1⟩ := DataW.trod_int Tryz.underlying2 t1
    simp at e0 e1
    subst e0 e1
    obtain ⟨ss, hS, hsn, hss⟩ := strs_open t2 (by
      intro q hq
      refine hw q ?_
      simp only [DataW.weights, hu]
      refine List.mem_cons_of_mem _ (List.mem_append_left _ (weightsAll_mem (d := D i) (List.mem_map.2 ⟨i, by simpa using hi, rfl⟩) _ ?_))
      have hD : D i = .agg [y0.1, y1.1, y2.1] := congrArg Prod.fst ey
      rw [hD]
      have hu2 : Tryz.prog.underlying 57 = _ := Tryz.underlying57
      simp only [DataW.weights, hu2]
      exact DataW.weights_mem_each (j := 2) rfl rfl q hq)
    have g0 := hce 0 (by omega)
    have g1 := hce 1 (by omega)
    have g2 := hce 2 (by omega)
    rw [add_add] at g0 g1 g2
    simp at g0 g1 g2
    simp [Lit.wf, IntKind.min, IntKind.max, IntKind.signed, IntKind.bits] at w0 w1
    exact ⟨⟨n0, n1, c2, ss⟩, ⟨g0, g1, g2⟩, hS, ⟨by show _ ≤ n0; omega, by show n0 ≤ _; omega, by show _ ≤ n1; omega, by show n1 ≤ _; omega, hsn, hss⟩⟩
  obtain ⟨cs, hcl, hcs⟩ := list_by len each
  refine ⟨cs, ⟨?_, fun c hc => ?_⟩, fun c hc => ?_, ?_⟩
  · rw [hcl]
    refine rd_open (by omega) (by rw [flat_length, hcl]) fun j u hj => ?_
    have hj2 : j < cs.length * 3 := by
      have := (List.getElem?_eq_some_iff.1 hj).1
      rwa [flat_length] at this
    have hi : j / 3 < cs.length := by omega
    have hf := flat_at cs (j / 3) hi
    have hp := (hcs (j / 3) hi).1
    rcases (show j = j / 3 * 3 ∨ j = j / 3 * 3 + 1 ∨ j = j / 3 * 3 + 2 by omega) with h0 | h0 | h0
    · rw [h0] at hj ⊢
      rw [hf.1] at hj
      rw [hp.1]; exact hj
    · rw [h0] at hj ⊢
      rw [hf.2.1] at hj
      rw [hp.2.1]; exact hj
    · rw [h0] at hj ⊢
      rw [hf.2.2] at hj
      rw [hp.2.2]; exact hj
  · obtain ⟨i, hi, rfl⟩ := List.getElem_of_mem hc
    exact (hcs i hi).2.1
  · obtain ⟨i, hi, rfl⟩ := List.getElem_of_mem hc
    exact (hcs i hi).2.2
  · have := hw (((List.range len).map D).length * 40 + ((List.range (m - len)).map fun j => D (len + j)).length * 40) (by
      simp only [DataW.weights, hu, hb40, Nat.add_mul]
      exact List.mem_cons_self ..)
    unfold reachBytes at this
    simp at this
    omega
end
/-- the weights of one argument, out of those of all -/
theorem weight_at {H : Type} {P : Program} {ts : List TypeId} {ds : List (DataW H)} (h : (DataW.weightsEach P ts ds).all (· ≤ reachBytes) = true) (j : Nat) {t : TypeId} {d : DataW H} (ht : ts[j]? = some t) (hd : ds[j]? = some d) : ∀ n ∈ d.weights P t, n ≤ reachBytes := by
  intro n hn
  simpa using List.all_eq_true.1 h _ (DataW.weights_mem_each ht hd n hn)
end Go.Proofs.YthadhmhbbfjomaaGreatDoor
