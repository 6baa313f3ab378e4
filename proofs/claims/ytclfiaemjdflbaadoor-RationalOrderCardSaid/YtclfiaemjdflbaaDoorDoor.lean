/-
  What the row's condition on the variable orders gives a walk: its cells.
  Conditions: none.
-/
import Derived.Test.YtclfiaemjdflbaaDoorRows
import Derived.Test.YtclfiaemjdflbaaDoorWalkCm
import Derived.ProofKit
import Derived.LaidMore
import Derived.LaidOnce
import Derived.OpenShut
import Derived.Stop.Joined
namespace Go.Proofs.YtclfiaemjdflbaaDoor
open Go.ChangeShapes Go.WideShapes Go.ChangeAt Go.RowKit
set_option linter.unusedVariables false

def laidOrd : List (String × DataW Unit) := [("cutroom/rational.orders", Rows.laid_cutroom_rational_orders)]
theorem laidOrd_met (os : Os) (args : Array Value) : laidMetH Tryd.prog laidOrd ((World.doorLaid Tryd.prog 81 os).forCall (fun _ _ => 0) ⟨#[], args, []⟩).memory :=
  laidMetH_of_parts3 (fuel := 8) (laidMet_of_run' 8 (by kernel_rfl) (by kernel_rfl)) (by kernel_rfl) (by kernel_rfl)
theorem gOrd : Tryd.prog.globalNamed "cutroom/rational.orders" = some 0 := by kernel_rfl
theorem tOrd : (Tryd.prog.globals[0]?).map (·.type) = some 40 := by kernel_rfl
theorem c38 : Tryd.prog.cellsOf 38 = 2 := by kernel_rfl
theorem c39 : Tryd.prog.cellsOf 39 = 3 := by kernel_rfl
theorem c40 : Tryd.prog.cellsOf 40 = 21 := by kernel_rfl
theorem c3 : Tryd.prog.cellsOf 3 = 1 := by kernel_rfl

section
variable {H : Type} {enc : TypeId × Value → H} {w : World} {base : Nat} {sp : Nat → Bool} {held : Bool} {fuel : Nat}
theorem int_det {x : Value} {a : Int} {q : List MemPlace} (h : DataW.trod enc Tryd.prog w base sp held fuel 3 [x] = some (.lit (.int .i64 a), q)) : x = .int .i64 a := by
  obtain ⟨n, e1, e2, _⟩ := DataW.trod_int Tryd.underlying3 h
  simp at e1 e2
  rw [e1, e2.1]
theorem signs_det {x y : Value} {a b : Int} {q : List MemPlace} (h : DataW.trod enc Tryd.prog w base sp held fuel 38 [x, y] = some (.agg [.lit (.int .i64 a), .lit (.int .i64 b)], q)) : x = .int .i64 a ∧ y = .int .i64 b := by
  obtain ⟨ys, n, _, hx, _, hlen, hg⟩ := DataW.trod_struct Tryd.underlying38 h
  simp only [Prod.mk.injEq, DataW.agg.injEq] at hx
  match ys, hlen, hx with
  | [y0, y1], _, hx =>
    have g0 := hg 0 _ rfl
    have g1 := hg 1 _ rfl
    simp [c3] at g0 g1 hx
    obtain ⟨⟨h0, h1⟩, _⟩ := hx
    rw [show y0 = (y0.1, y0.2) from rfl, ← h0] at g0
    rw [show y1 = (y1.1, y1.2) from rfl, ← h1] at g1
    exact ⟨int_det g0, int_det g1⟩
theorem entry_det {x y z : Value} {a b c : Int} {q : List MemPlace} (h : DataW.trod enc Tryd.prog w base sp held fuel 39 [x, y, z] = some (.agg [.agg [.lit (.int .i64 a), .lit (.int .i64 b)], .lit (.int .i64 c)], q)) : x = .int .i64 a ∧ y = .int .i64 b ∧ z = .int .i64 c := by
  obtain ⟨ys, n, _, hx, _, hlen, hg⟩ := DataW.trod_struct Tryd.underlying39 h
  simp only [Prod.mk.injEq, DataW.agg.injEq] at hx
  match ys, hlen, hx with
  | [y0, y1], _, hx =>
    have g0 := hg 0 _ rfl
    have g1 := hg 1 _ rfl
    simp [c3, c38] at g0 g1 hx
    obtain ⟨⟨h0, h1⟩, _⟩ := hx
    rw [show y0 = (y0.1, y0.2) from rfl, ← h0] at g0
    rw [show y1 = (y1.1, y1.2) from rfl, ← h1] at g1
    obtain ⟨r0, r1⟩ := signs_det g0
    exact ⟨r0, r1, int_det g1⟩
end

theorem ords_of_laid {W : World} (h : laidMetH Tryd.prog laidOrd W) : Ords W := by
  rw [MakeChecks.laidMetH_plain _ _ _ (by kernel_rfl)] at h
  obtain ⟨ps, ⟨g0, t0, cs0, f0, p0, q0, hg0, ht0, hv0, hd0, _, _⟩, _⟩ := h
  obtain rfl := Option.some.inj (gOrd.symm.trans hg0)
  obtain rfl := Option.some.inj (tOrd.symm.trans ht0)
  obtain ⟨xs, m1, _, hx, hlen, hn, hel⟩ := DataW.trod_array Tryd.underlying40 hd0
  rw [c40] at hlen
  have hT : cs0 = ordT := by
    obtain ⟨l⟩ := cs0
    simp only at hlen hel
    rw [c39] at hel
    match l, hlen with
    | [v0, v1, v2, v3, v4, v5, v6, v7, v8, v9, v10, v11, v12, v13, v14, v15, v16, v17, v18, v19, v20], _ =>
      match xs, hn with
      | [x0, x1, x2, x3, x4, x5, x6], _ =>
        simp only [Prod.mk.injEq, Rows.laid_cutroom_rational_orders, DataW.agg.injEq, List.map_cons, List.map_nil, List.cons.injEq] at hx
        obtain ⟨⟨h0, h1, h2, h3, h4, h5, h6, _⟩, _⟩ := hx
        have g0 := hel 0 (by decide)
        simp at g0
        rw [show x0 = (x0.1, x0.2) from rfl, ← h0] at g0
        obtain ⟨rfl, rfl, rfl⟩ := entry_det g0
        clear g0
        have g1 := hel 1 (by decide)
        simp at g1
        rw [show x1 = (x1.1, x1.2) from rfl, ← h1] at g1
        obtain ⟨rfl, rfl, rfl⟩ := entry_det g1
        clear g1
        have g2 := hel 2 (by decide)
        simp at g2
        rw [show x2 = (x2.1, x2.2) from rfl, ← h2] at g2
        obtain ⟨rfl, rfl, rfl⟩ := entry_det g2
        clear g2
        have g3 := hel 3 (by decide)
        simp at g3
        rw [show x3 = (x3.1, x3.2) from rfl, ← h3] at g3
        obtain ⟨rfl, rfl, rfl⟩ := entry_det g3
        clear g3
        have g4 := hel 4 (by decide)
        simp at g4
        rw [show x4 = (x4.1, x4.2) from rfl, ← h4] at g4
        obtain ⟨rfl, rfl, rfl⟩ := entry_det g4
        clear g4
        have g5 := hel 5 (by decide)
        simp at g5
        rw [show x5 = (x5.1, x5.2) from rfl, ← h5] at g5
        obtain ⟨rfl, rfl, rfl⟩ := entry_det g5
        clear g5
        have g6 := hel 6 (by decide)
        simp at g6
        rw [show x6 = (x6.1, x6.2) from rfl, ← h6] at g6
        obtain ⟨rfl, rfl, rfl⟩ := entry_det g6
        clear g6
        rfl
  subst hT
  unfold World.var? at hv0
  rw [gOrd] at hv0
  simp only [Option.bind_some] at hv0
  split at hv0
  · rename_i cs t fr hb
    injection hv0 with e
    subst e
    exact ⟨t, fr, hb⟩
  · cases hv0
end Go.Proofs.YtclfiaemjdflbaaDoor
