/-
  Arguments as the reading hands them over: a track.
  Conditions: none.
-/
import Derived.Test.YtgbiodnfpbhjiaaGreatDoorLift
import Derived.Test.YtgbiodnfpbhjiaaGreatDoorWalkTm
namespace Go.Proofs.YtgbiodnfpbhjiaaGreatDoor
open Go.ChangeShapes Go.WideShapes Go.ChangeAt Go.RowKit Go.Joins Go.Deep
set_option linter.unusedVariables false

theorem lst2 {α : Type} {l : List α} (h : l.length = 2) : ∃ a0 a1, l = [a0, a1] := by
  match l, h with
  | [a0, a1], _ => exact ⟨a0, a1, rfl⟩
theorem lst5 {α : Type} {l : List α} (h : l.length = 5) : ∃ a0 a1 a2 a3 a4, l = [a0, a1, a2, a3, a4] := by
  match l, h with
  | [a0, a1, a2, a3, a4], _ => exact ⟨a0, a1, a2, a3, a4, rfl⟩
theorem lst7 {α : Type} {l : List α} (h : l.length = 7) : ∃ a0 a1 a2 a3 a4 a5 a6, l = [a0, a1, a2, a3, a4, a5, a6] := by
  match l, h with
  | [a0, a1, a2, a3, a4, a5, a6], _ => exact ⟨a0, a1, a2, a3, a4, a5, a6, rfl⟩
theorem lst10 {α : Type} {l : List α} (h : l.length = 10) : ∃ a0 a1 a2 a3 a4 a5 a6 a7 a8 a9, l = [a0, a1, a2, a3, a4, a5, a6, a7, a8, a9] := by
  match l, h with
  | [a0, a1, a2, a3, a4, a5, a6, a7, a8, a9], _ => exact ⟨a0, a1, a2, a3, a4, a5, a6, a7, a8, a9, rfl⟩
theorem lst22 {α : Type} {l : List α} (h : l.length = 22) : ∃ a0 a1 a2 a3 a4 a5 a6 a7 a8 a9 a10 a11 a12 a13 a14 a15 a16 a17 a18 a19 a20 a21, l = [a0, a1, a2, a3, a4, a5, a6, a7, a8, a9, a10, a11, a12, a13, a14, a15, a16, a17, a18, a19, a20, a21] := by
  match l, h with
  | [a0, a1, a2, a3, a4, a5, a6, a7, a8, a9, a10, a11, a12, a13, a14, a15, a16, a17, a18, a19, a20, a21], _ => exact ⟨a0, a1, a2, a3, a4, a5, a6, a7, a8, a9, a10, a11, a12, a13, a14, a15, a16, a17, a18, a19, a20, a21, rfl⟩
section
variable {H : Type} {enc : TypeId × Value → H} {P : Program} {w : World} {base : Nat} {sp : Nat → Bool} {held : Bool} {fuel : Nat}
/-- the fields of a struct, out of its cells -/
theorem trod_part {t : TypeId} {fs : Array Field} {cs : List Value} {x : DataW H × List MemPlace} (N : Nat) (hN : fs.size = N) (hs : P.underlying t = some (.struct fs))
    (h : DataW.trod enc P w base sp held fuel t cs = some x) :
    ∃ (ys : List (DataW H × List MemPlace)) (n : Nat), x = (.agg (ys.map (·.1)), ys.flatMap (·.2)) ∧ ys.length = N ∧ cs.length = P.cellsOf t ∧
      ∀ (i : Nat) (f : Field) (y : DataW H × List MemPlace), fs[i]? = some f → ys[i]? = some y → DataW.trod enc P w base sp held n f.type ((cs.drop f.offset).take (P.cellsOf f.type)) = some y := by
  obtain ⟨ys, n, _, hx, hc, hlen, hg⟩ := DataW.trod_struct hs h
  exact ⟨ys, n, hx, hlen.trans hN, hc, fun i f y hi hy => by rw [← hy]; exact hg i f hi⟩
end
section
variable {H : Type} {enc : TypeId × Value → H} {w : World} {base : Nat} {sp : Nat → Bool} {held : Bool} {fuel : Nat}
theorem i64_wf {n : Int} (h : (Lit.int IntKind.i64 n).wf = true) : I64 n := by
  simp [Lit.wf, IntKind.min, IntKind.max, IntKind.signed, IntKind.bits] at h
  exact ⟨by omega, by omega⟩
theorem rat_open {cs : List Value} {x : DataW H × List MemPlace} (h : DataW.trod enc Tryz.prog w base sp held fuel 77 cs = some x) : ∃ a b : Int, cs = [.int .i64 a, .int .i64 b] ∧ I64 a ∧ I64 b := by
  obtain ⟨y0, y1, n', ey, hl, t0, t1⟩ := trod_struct2 Tryz.underlying77 h
  have k1 : Tryz.prog.cellsOf 2 = 1 := by kernel_rfl
  have k2 : Tryz.prog.cellsOf 77 = 2 := by kernel_rfl
  rw [k2] at hl
  obtain ⟨c0, c1, rfl⟩ := lst2 hl
  simp [k1] at t0 t1
  obtain ⟨n0, e0, _, w0⟩ := DataW.trod_int Tryz.underlying2 t0
  obtain ⟨n1, e1, _, w1⟩ := DataW.trod_int Tryz.underlying2 t1
  simp at e0 e1
  subst e0 e1
  exact ⟨n0, n1, rfl, i64_wf w0, i64_wf w1⟩
theorem source_open {cs : List Value} {x : DataW H × List MemPlace} (h : DataW.trod enc Tryz.prog w base sp held fuel 79 cs = some x) (hw : ∀ n ∈ x.1.weights Tryz.prog 79, n ≤ reachBytes) :
    ∃ s : Sr, cs = s.cells ∧ SrOk s := by
  obtain ⟨ys, n', ey, hl, hn, hf⟩ := trod_part 5 rfl Tryz.underlying79 h
  have k0 : Tryz.prog.cellsOf 3 = 1 := by kernel_rfl
  have k1 : Tryz.prog.cellsOf 9 = 1 := by kernel_rfl
  have k2 : Tryz.prog.cellsOf 77 = 2 := by kernel_rfl
  have k3 : Tryz.prog.cellsOf 4 = 1 := by kernel_rfl
  have k7 : Tryz.prog.cellsOf 79 = 7 := by kernel_rfl
  rw [k7] at hn
  obtain ⟨y0, y1, y2, y3, y4, rfl⟩ := lst5 hl
  obtain ⟨c0, c1, c2, c3, c4, c5, c6, rfl⟩ := lst7 hn
  have t0 := hf 0 _ _ rfl rfl
  have t1 := hf 1 _ _ rfl rfl
  have t2 := hf 2 _ _ rfl rfl
  have t3 := hf 3 _ _ rfl rfl
  have t4 := hf 4 _ _ rfl rfl
  simp [k0, k1, k2, k3] at t0 t1 t2 t3 t4
  obtain ⟨n0, e0, _, w0⟩ := DataW.trod_int Tryz.underlying3 t0
  obtain ⟨s1, e1, q1, _⟩ := DataW.trod_string Tryz.underlying9 t1
  obtain ⟨a2, b2, e2, i2, j2⟩ := rat_open t2
  obtain ⟨a3, b3, e3, i3, j3⟩ := rat_open t3
  obtain ⟨b4, e4, _⟩ := DataW.trod_bool Tryz.underlying4 t4
  simp at e0 e1 e2 e3 e4
  obtain ⟨e20, e21⟩ := e2
  obtain ⟨e30, e31⟩ := e3
  subst e0 e1 e20 e21 e30 e31 e4
  refine ⟨⟨n0, s1, a2, b2, a3, b3, b4⟩, rfl, ⟨i64_wf w0, ?_, i2, j2, i3, j3⟩⟩
  show s1.size ≤ _
  have := hw s1.size (by
    have hD : x.1 = _ := congrArg Prod.fst ey
    rw [hD]
    have hu2 : Tryz.prog.underlying 79 = _ := Tryz.underlying79
    simp only [DataW.weights, hu2]
    refine DataW.weights_mem_each (j := 1) rfl rfl _ ?_
    simp [q1, DataW.weights])
  unfold reachBytes at this
  omega
theorem chan_open {v : Value} {x : DataW H × List MemPlace} (h : DataW.trod enc Tryz.prog w base sp held fuel 25 [v] = some x) (hw : ∀ n ∈ x.1.weights Tryz.prog 25, n ≤ reachBytes) :
    ∃ xs : List Int, Rd w v xs.length 1 (intsV xs) ∧ xs.length * 8 ≤ 140737488355328 := by
  rcases open_ints Tryz.underlying25 Tryz.underlying3 (by kernel_rfl) h with ⟨e, rfl⟩ | ⟨a, len, cap, zs, e, hb, hlc, hcm, hlen, rfl, hcell, hwf⟩
  · simp at e; subst e
    exact ⟨[], Rd.nil w 1, by simp⟩
  simp at e; subst e
  have hle : len ≤ zs.length := by rw [hlen]; split <;> omega
  have hz : (zs.take len).length = len := by simp [hle]
  have hu : Tryz.prog.underlying 25 = some (.slice 3) := Tryz.underlying25
  have hb8 : Tryz.prog.bytesOf 3 = 8 := by kernel_rfl
  refine ⟨zs.take len, ?_, ?_⟩
  · rw [hz]
    unfold intsV
    refine rd_open (by omega) (by simp [hle]) fun j u hj => ?_
    have hj2 : j < len := by
      have := (List.getElem?_eq_some_iff.1 hj).1
      simp at this; omega
    have h2 := hcell j (by omega)
    rw [h2]
    rw [List.getElem?_map, List.getElem?_take, if_pos hj2, List.getElem?_eq_getElem (show j < zs.length by omega)] at hj
    simp at hj
    rw [List.getD_eq_getElem?_getD, List.getElem?_eq_getElem (show j < zs.length by omega)]
    simp [hj]
  · rw [hz]
    have := hw ((lits (H := H) .i64 (zs.take len)).length * 8 + (lits (H := H) .i64 (zs.drop len)).length * 8) (by
      simp only [DataW.weights, hu, hb8, Nat.add_mul]
      exact List.mem_cons_self ..)
    unfold reachBytes lits at this
    simp at this
    omega
theorem clip_open {cs : List Value} {x : DataW H × List MemPlace} (h : DataW.trod enc Tryz.prog w base sp held fuel 81 cs = some x) (hw : ∀ n ∈ x.1.weights Tryz.prog 81, n ≤ reachBytes) :
    ∃ m : CM, cs = m.cells ∧ ChR w m ∧ ClOk m.c := by
  obtain ⟨ys, n', ey, hl, hn, hf⟩ := trod_part 10 rfl Tryz.underlying81 h
  have k0 : Tryz.prog.cellsOf 3 = 1 := by kernel_rfl
  have k1 : Tryz.prog.cellsOf 9 = 1 := by kernel_rfl
  have k2 : Tryz.prog.cellsOf 2 = 1 := by kernel_rfl
  have k3 : Tryz.prog.cellsOf 25 = 1 := by kernel_rfl
  have k7 : Tryz.prog.cellsOf 79 = 7 := by kernel_rfl
  have k22 : Tryz.prog.cellsOf 81 = 22 := by kernel_rfl
  rw [k22] at hn
  obtain ⟨y0, y1, y2, y3, y4, y5, y6, y7, y8, y9, rfl⟩ := lst10 hl
  obtain ⟨c0, c1, c2, c3, c4, c5, c6, c7, c8, c9, c10, c11, c12, c13, c14, c15, c16, c17, c18, c19, c20, c21, rfl⟩ := lst22 hn
  have t0 := hf 0 _ _ rfl rfl
  have t1 := hf 1 _ _ rfl rfl
  have t2 := hf 2 _ _ rfl rfl
  have t3 := hf 3 _ _ rfl rfl
  have t4 := hf 4 _ _ rfl rfl
  have t5 := hf 5 _ _ rfl rfl
  have t6 := hf 6 _ _ rfl rfl
  have t7 := hf 7 _ _ rfl rfl
  have t8 := hf 8 _ _ rfl rfl
  have t9 := hf 9 _ _ rfl rfl
  simp [k0, k1, k2, k3, k7] at t0 t1 t2 t3 t4 t5 t6 t7 t8 t9
  have hD : x.1 = _ := congrArg Prod.fst ey
  have hu2 : Tryz.prog.underlying 81 = _ := Tryz.underlying81
  rw [hD] at hw
  simp only [DataW.weights, hu2] at hw
  obtain ⟨n0, e0, _, w0⟩ := DataW.trod_int Tryz.underlying2 t0
  obtain ⟨n1, e1, _, w1⟩ := DataW.trod_int Tryz.underlying3 t1
  obtain ⟨s2, e2, i2⟩ := source_open t2 (fun q hq => hw q (DataW.weights_mem_each (j := 2) rfl rfl q hq))
  obtain ⟨s3, e3, i3⟩ := source_open t3 (fun q hq => hw q (DataW.weights_mem_each (j := 3) rfl rfl q hq))
  obtain ⟨n4, e4, _, w4⟩ := DataW.trod_int Tryz.underlying2 t4
  obtain ⟨n5, e5, _, w5⟩ := DataW.trod_int Tryz.underlying2 t5
  obtain ⟨n6, e6, _, w6⟩ := DataW.trod_int Tryz.underlying3 t6
  obtain ⟨s7, e7, q7, _⟩ := DataW.trod_string Tryz.underlying9 t7
  obtain ⟨n8, e8, _, w8⟩ := DataW.trod_int Tryz.underlying3 t8
  obtain ⟨xs, hxs, hxl⟩ := chan_open t9 (fun q hq => hw q (DataW.weights_mem_each (j := 9) rfl rfl q hq))
  have h7 : s7.size ≤ 140737488355328 := by
    have := hw s7.size (by
      refine DataW.weights_mem_each (j := 7) rfl rfl _ ?_
      simp [q7, DataW.weights])
    unfold reachBytes at this
    omega
  unfold Sr.cells at e2 e3
  simp at e0 e1 e2 e3 e4 e5 e6 e7 e8
  obtain ⟨a0, a1, a2, a3, a4, a5, a6⟩ := e2
  obtain ⟨b0, b1, b2, b3, b4, b5, b6⟩ := e3
  subst e0 e1 a0 a1 a2 a3 a4 a5 a6 b0 b1 b2 b3 b4 b5 b6 e4 e5 e6 e7 e8
  exact ⟨⟨⟨n0, n1, s2, s3, n4, n5, n6, s7, n8, xs⟩, c21⟩, rfl, hxs, ⟨i64_wf w0, i64_wf w1, i2, i3, i64_wf w4, i64_wf w5, i64_wf w6, h7, i64_wf w8, hxl⟩⟩
theorem track_open {v : Value} {x : DataW H × List MemPlace} (h : DataW.trod enc Tryz.prog w base sp held fuel 35 [v] = some x) (hw : ∀ n ∈ x.1.weights Tryz.prog 35, n ≤ reachBytes) :
    ∃ cs : List CM, TrR w v cs ∧ (∀ c ∈ cs, ClOk c.c) ∧ cs.length ≤ 140737488355328 ∧ ∀ a n c, v = .slice a n c → n ≤ c := by
  have hu : Tryz.prog.underlying 35 = some (.slice 81) := Tryz.underlying35
  have hb : Tryz.prog.bytesOf 81 = 216 := by kernel_rfl
  have hc22 : Tryz.prog.cellsOf 81 = 22 := by kernel_rfl
  rcases open_slice hu h with ⟨e, rfl⟩ | ⟨a, len, cap, m, n, D, Pl, e, hbb, hlc, hcm, hm, rfl, hel⟩
  · simp at e; subst e
    exact ⟨[], TrR.nil w, fun c hc => (by cases hc), by simp, fun a n c he => (by injection he; omega)⟩
  simp at e; subst e
  have hle : len ≤ m := by rw [hm]; split <;> omega
  rw [hc22] at hel
  have each : ∀ i, i < len → ∃ c : CM, (∀ j u, c.cells[j]? = some u → w.cell? (a.add (i * 22 + j)) = some u) ∧ ChR w c ∧ ClOk c.c := by
    intro i hi
    obtain ⟨cs', h1, h2⟩ := hel i (by omega)
    obtain ⟨_, hl, hce⟩ := World.cells?_some h1
    obtain ⟨c, ec, hch, hok⟩ := clip_open h2 (by
      intro q hq
      refine hw q ?_
      simp only [DataW.weights, hu]
      exact List.mem_cons_of_mem _ (List.mem_append_left _ (weightsAll_mem (d := D i) (List.mem_map.2 ⟨i, by simpa using hi, rfl⟩) _ hq)))
    subst ec
    refine ⟨c, fun j u hu' => ?_, hch, hok⟩
    have hj : j < 22 := by
      have := (List.getElem?_eq_some_iff.1 hu').1
      rwa [CM.len22] at this
    have := hce j (by omega)
    rw [add_add] at this
    rw [this]
    exact hu'
  obtain ⟨cs, hcl, hcs⟩ := list_by len each
  refine ⟨cs, ⟨?_, fun c hc => ?_⟩, fun c hc => ?_, ?_, fun a' n' c' he => ?_⟩
  · rw [hcl]
    refine rd_open (by omega) (by rw [cflat_length, hcl]) fun j u hj => ?_
    have hj2 : j < cs.length * 22 := by
      have := (List.getElem?_eq_some_iff.1 hj).1
      rwa [cflat_length] at this
    have hi : j / 22 < cs.length := by omega
    have hj8 : j % 22 < 22 := Nat.mod_lt _ (by omega)
    have he : j = j / 22 * 22 + j % 22 := by omega
    rw [he] at hj ⊢
    rw [cflat_at cs (j / 22) hi (j % 22) hj8] at hj
    exact (hcs (j / 22) hi).1 _ _ hj
  · obtain ⟨i, hi, rfl⟩ := List.getElem_of_mem hc
    exact (hcs i hi).2.1
  · obtain ⟨i, hi, rfl⟩ := List.getElem_of_mem hc
    exact (hcs i hi).2.2
  · have := hw (((List.range len).map D).length * 216 + ((List.range (m - len)).map fun j => D (len + j)).length * 216) (by
      simp only [DataW.weights, hu, hb, Nat.add_mul]
      exact List.mem_cons_self ..)
    unfold reachBytes at this
    simp at this
    omega
  · injection he with h1 h2 h3
    omega
end
end Go.Proofs.YtgbiodnfpbhjiaaGreatDoor
