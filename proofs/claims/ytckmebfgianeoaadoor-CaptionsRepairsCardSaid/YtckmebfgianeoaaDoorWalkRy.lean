import Derived.Test.YtckmebfgianeoaaDoorMathZ
import Derived.Test.YtckmebfgianeoaaDoorReg6
import Derived.Test.YtckmebfgianeoaaDoorWalkSt
import Derived.Test.YtckmebfgianeoaaDoorWalkWp
import Derived.Deep.DeepCutAuto
import Derived.Test.YtckmebfgianeoaaDoorWalkRg
import Derived.Test.YtckmebfgianeoaaDoorWalkRx
/-
  Contract of sorted of the reference: the captions in ascending order, equals as they came.
  Conditions: the list lies in memory.
-/
namespace Go.Proofs.YtckmebfgianeoaaDoor
open Go.RowKit Go.Lib Go.Sort
set_option linter.unusedSimpArgs false
set_option linter.unusedVariables false

/-- the first elements of a list of captions, and the others -/
theorem Rd.first3 {W : World} {a : Option Addr} {n cap : Nat} {xs : List Value} (h : Rd W (.slice a n cap) n 3 xs) (m : Nat) (hm : m ≤ n) : Rd W (.slice a m cap) m 3 (xs.take (m * 3)) := by
  obtain ⟨hl, a', cap', he, h0⟩ := h
  injection he with h1 h2 h3
  subst h1 h3
  refine ⟨by rw [List.length_take]; omega, a, cap, rfl, ?_⟩
  rcases h0 with ⟨h1, h2⟩ | ⟨b, o, rfl, hb, hc⟩
  · exact .inl ⟨by omega, h2⟩
  · refine .inr ⟨b, o, rfl, hb, fun j u hj => hc j u ?_⟩
    rw [List.getElem?_take] at hj
    split at hj
    · exact hj
    · cases hj
theorem Rd.rest3 {W : World} {b o n cap cap' : Nat} {xs : List Value} (h : Rd W (.slice (some ⟨b, o, none⟩) n cap) n 3 xs) (m : Nat) (hm : m ≤ n) : Rd W (.slice (some ⟨b, o + m * 3, none⟩) (n - m) cap') (n - m) 3 (xs.drop (m * 3)) := by
  obtain ⟨hl, a', c', he, h0⟩ := h
  injection he with h1 h2 h3
  subst h1 h3
  refine ⟨by rw [List.length_drop]; omega, _, cap', rfl, ?_⟩
  rcases h0 with ⟨h1, h2⟩ | ⟨b', o', he, hb, hc⟩
  · exact .inl ⟨by omega, fun h => by cases h⟩
  · injection he with he
    injection he with e1 e2
    subst e1 e2
    refine .inr ⟨b, o + m * 3, rfl, hb, fun j u hj => ?_⟩
    rw [List.getElem?_drop] at hj
    rw [Nat.add_assoc]
    exact hc _ u hj
theorem flat_take (cs : List Cu) (m : Nat) : (flat cs).take (m * 3) = flat (cs.take m) := by
  induction cs generalizing m with
  | nil => simp [flat]
  | cons c cs ih =>
    cases m with
    | zero => simp [flat]
    | succ m =>
      rw [List.take_succ_cons, show flat (c :: cs) = c.cells ++ flat cs from rfl, show flat (c :: cs.take m) = c.cells ++ flat (cs.take m) from rfl, ← ih, List.take_append, show c.cells.length = 3 from rfl, List.take_of_length_le (by show 3 ≤ _; omega)]
      congr 2
      omega
theorem flat_drop (cs : List Cu) (m : Nat) : (flat cs).drop (m * 3) = flat (cs.drop m) := by
  have h1 := List.take_append_drop (m * 3) (flat cs)
  have h2 : flat cs = flat (cs.take m) ++ flat (cs.drop m) := by rw [← flat_append, List.take_append_drop]
  rw [flat_take] at h1
  exact List.append_cancel_left (h1.trans h2)
theorem own_low {w : World} {base base' n size : Nat} {e : TypeId} {v : Value} {xs : List Value} (hb : base' ≤ base) (h : w.ownsRow base e size v n xs) : w.ownsRow base' e size v n xs :=
  ⟨h.1, h.2.imp id (fun ⟨g, cap, cur, h1, h2, h3⟩ => ⟨g, cap, cur, h1, Nat.le_trans hb h2, h3⟩)⟩
def TellsB (bb : Bool) (P : Prop) : Prop := bb = true ↔ P
/-- one caption more -/
theorem st_more {cs : List Cu} {n k : Nat} {ts : List TC} (hn : n < cs.length) (h : IsSt (cs.take n) ts) (h1 : ∀ t, k ≤ t → t < n → ltC cs[n] ts[t]!.1 = true) (h2 : k = 0 ∨ ltC cs[n] ts[k - 1]!.1 = false) (hk : k ≤ n) : IsSt (cs.take (n + 1)) (ts.take k ++ (cs[n], n) :: ts.drop k) := by
  have hl : ts.length = n := by rw [h.len, List.length_take]; omega
  have htag : ∀ x ∈ ts, x.2 < ((cs[n], n) : TC).2 := fun x hx => by
    have := h.2.mem_iff.1 hx
    obtain ⟨_, hi, _⟩ := List.mem_zipIdx this
    rw [List.length_take] at hi
    show x.2 < n
    omega
  refine ⟨put2 h.1 htag (fun i a b => ?_) (fun i a b => ?_), ?_⟩
  · rcases h2 with h2 | h2
    · omega
    · exact (srch2 h.1 htag (h := k - 1) (by omega)).1 h2 i (by omega)
  · exact h1 i a (by omega)
  · refine (one_perm ts (cs[n], n) k).trans ?_
    have e : (cs.take (n + 1)).zipIdx = (cs.take n).zipIdx ++ [(cs[n], n)] := by
      rw [← List.take_append_getElem hn, List.zipIdx_append]
      simp [List.length_take, Nat.min_eq_left (Nat.le_of_lt hn)]
    rw [e]
    exact (List.Perm.cons _ h.2).trans (List.perm_append_comm (l₁ := [(cs[n], n)]) (l₂ := (cs.take n).zipIdx))

set_option maxRecDepth 20000 in
set_option maxHeartbeats 4000000 in
theorem rsorted_any (v : Value) (cs : List Cu) (w : World) (hC : Cues w v cs) :
    Calls Tryd.prog 68 #[v] w fun e w' => ∃ v' ts, e = .returned v' ∧ Gr w w' ∧ IsSt cs ts ∧ Rd w' v' cs.length 3 (flat (ts.map Prod.fst)) := by
  have hn := hC.n
  have hone : Hid (∀ x ∈ cs, x.lv.oneCell' = true) := fun x hx => Rd.oneCell (hC.at_.2 x hx)
  obtain ⟨p, cap, rfl, hsh⟩ := hC.at_.shape
  have hsh := Lib.hid hsh
  obtain ⟨ic, hic, hic0, hic1, hic2⟩ := info_parts infoCue
  clear hC
  go_enter Tryd.func68, Tryd.ntmps68
  go_wp2
  go_loopw [3, 4] (fun o vi wr => ∃ (n : Nat) (ts : List TC), vi = .int .i64 n ∧ n ≤ cs.length ∧ Gr w wr ∧ wr.ownsRow w.heap.size 66 3 o n (flat (ts.map Prod.fst)) ∧ Hid (IsSt (cs.take n) ts)) (fun _ vi _ => cs.length - (RowKit.intOf vi).toNat)
  case atStart => exact ⟨0, [], rfl, Nat.zero_le _, Gr.refl _, World.ownsRow_nil _ _ _ _, Lib.hid (IsSt.of_ord rfl rfl)⟩
  case round =>
    obtain ⟨n, ts, rfl, hnc, hg, hO, hI⟩ := hrel
    have htl : Hid (ts.length = n) := Lib.hid (by rw [hI.out.len, List.length_take]; omega)
    obtain ⟨p9, c9, rfl⟩ := own_shape hO
    have hO := Lib.hid hO
    by_cases c1 : n < cs.length
    · have q1 : decide ((n : Int) < (cs.length : Int)) = true := decide_eq_true (by omega)
      have q1' : decide (n < cs.length) = true := decide_eq_true c1
      rcases hsh.out with hx | ⟨bl, ol, hpl, hbl, hcl⟩
      · omega
      subst hpl
      have hcl := Lib.hid hcl
      obtain ⟨x, hx⟩ : ∃ x, cs[n] = x := ⟨_, rfl⟩
      have hxh := Lib.hid hx
      clear hx
      go_wp2
      go_loopw [5] (fun vk wx => ∃ k : Nat, vk = .int .i64 k ∧ k ≤ n ∧ Gr wr wx ∧ Hid (∀ t, k ≤ t → t < n → ltC x ts[t]!.1 = true)) (fun vk _ => (RowKit.intOf vk).toNat)
      case atStart => exact ⟨n, rfl, Nat.le_refl _, Gr.refl _, Lib.hid (fun t h1 h2 => absurd h2 (by omega))⟩
      case round =>
        obtain ⟨k, rfl, hk, hgx, hB⟩ := hrel
        go_upto_region 6 with fail
        go_cut [57] (fun c wx => ∃ bb : Bool, c = .bool bb ∧ Gr wr wx ∧ Hid (TellsB bb (0 < k ∧ ltC x ts[k - 1]!.1 = true)))
        case first =>
          by_cases hk0 : 0 < k
          · have g0 : decide (0 < k) = true := decide_eq_true hk0
            have g0' : decide ((0 : Int) < (k : Int)) = true := decide_eq_true (by omega)
            obtain ⟨k', hk'⟩ : ∃ k', k - 1 = k' := ⟨_, rfl⟩
            have ek : (k : Int) - 1 = (k' : Int) := by omega
            obtain ⟨b9, o9, c9', hsv, hb9, hc9⟩ := (Rd.own hO.out).addr (by omega)
            injection hsv with e1 e2 e3
            subst e1 e3
            have hkt : k' < (ts.map Prod.fst).length := by rw [List.length_map, htl.out]; omega
            obtain ⟨f0, f1, f2⟩ := flat_at (ts.map Prod.fst) k' hkt
            have ey : (ts.map Prod.fst)[k'] = ts[k']!.1 := by
              rw [getElem!_pos ts k' (by rw [htl.out]; omega)]
              simp
            rw [ey] at f0 f1 f2
            have a0 := (hgx.cells.1 b9 _ hb9).trans (hc9 _ _ f0)
            have a1 := (hgx.cells.1 b9 _ hb9).trans (hc9 _ _ f1)
            rw [← Nat.add_assoc] at a1
            have y0 := (((hg.trans hgx).cells.1 bl _ hbl)).trans (hcl.out n c1).1
            have y1 := (((hg.trans hgx).cells.1 bl _ hbl)).trans (hcl.out n c1).2.1
            rw [hxh.out] at y0 y1
            have z0 : b9 < wr.heap.size := Nat.lt_of_lt_of_le hb9 hgx.size
            have z1 : bl < wr.heap.size := Nat.lt_of_lt_of_le hbl (hg.trans hgx).size
            have n1 : (k' : Int) < (n : Int) := by omega
            have n2 : (n : Int) < (cs.length : Int) := by omega
            obtain ⟨y, hy⟩ : ∃ y, ts[k']!.1 = y := ⟨_, rfl⟩
            rw [hy] at a0 a1
            have fin : ∀ bb : Bool, ltC x y = bb → TellsB bb (0 < k ∧ ltC x ts[k - 1]!.1 = true) := fun bb h => by
              unfold TellsB
              rw [hk', hy, h]
              exact ⟨fun h => ⟨hk0, h⟩, fun h => h.2⟩
            have fin := Lib.hid fin
            clear hc9 f0 f1 f2 ey hkt hk' hy
            by_cases A1 : x.f < y.f
            · have g1 : decide (x.f < y.f) = true := decide_eq_true A1
              have hF := Lib.hid (fin.out true (by unfold ltC; exact decide_eq_true (.inl A1)))
              clear A1
              refine wp_region_gr (by kernel_rfl) (by kernel_rfl) (fun hq1 hq2 => ?_)
              repeat (first | go_big_quiet_skip | (go_big_quiet_want; go_big_quiet_op; first | go_big_quiet_on | (apply Exists.intro; refine ⟨fun _ => ?_, ?_⟩; (· (fail)); go_big_quiet_on)))
              refine wpQuiet_nil ?_
              clear hq1 hq2
              rintro w6 ⟨⟨_, hg6⟩, rfl⟩
              obtain ⟨hc6, hf6⟩ := hg6.cells
              have hz6 := hg6.size
              (try simp at hz6); (try have hl6_0_0 : w.heap.size < w6.heap.size := by omega); (try have hm6_0_0 : w.heap.size ≤ w6.heap.size := by omega); (try have hl6_0_1 : w.heap.size + 1 < w6.heap.size := by omega); (try have hl6_0_2 : w.heap.size + 2 < w6.heap.size := by omega); (try have hl6_1_0 : w1.heap.size < w6.heap.size := by omega); (try have hm6_1_0 : w1.heap.size ≤ w6.heap.size := by omega); (try have hl6_1_1 : w1.heap.size + 1 < w6.heap.size := by omega); (try have hl6_1_2 : w1.heap.size + 2 < w6.heap.size := by omega); (try have hl6_2_0 : w2.heap.size < w6.heap.size := by omega); (try have hm6_2_0 : w2.heap.size ≤ w6.heap.size := by omega); (try have hl6_2_1 : w2.heap.size + 1 < w6.heap.size := by omega); (try have hl6_2_2 : w2.heap.size + 2 < w6.heap.size := by omega); (try have hl6_3_0 : w3.heap.size < w6.heap.size := by omega); (try have hm6_3_0 : w3.heap.size ≤ w6.heap.size := by omega); (try have hl6_3_1 : w3.heap.size + 1 < w6.heap.size := by omega); (try have hl6_3_2 : w3.heap.size + 2 < w6.heap.size := by omega); (try have hl6_4_0 : w4.heap.size < w6.heap.size := by omega); (try have hm6_4_0 : w4.heap.size ≤ w6.heap.size := by omega); (try have hl6_4_1 : w4.heap.size + 1 < w6.heap.size := by omega); (try have hl6_4_2 : w4.heap.size + 2 < w6.heap.size := by omega); (try have hl6_5_0 : w5.heap.size < w6.heap.size := by omega); (try have hm6_5_0 : w5.heap.size ≤ w6.heap.size := by omega); (try have hl6_5_1 : w5.heap.size + 1 < w6.heap.size := by omega); (try have hl6_5_2 : w5.heap.size + 2 < w6.heap.size := by omega)
              go_wp2_with fail
              go_meet
              exact ⟨true, rfl, hg6, hF⟩
            · have g1 : decide (x.f < y.f) = false := decide_eq_false A1
              by_cases A2 : x.f = y.f
              · have g2 : (x.f == y.f) = true := by simp [A2]
                by_cases A3 : x.t < y.t
                · have g3 : decide (x.t < y.t) = true := decide_eq_true A3
                  have hF := Lib.hid (fin.out true (by unfold ltC; exact decide_eq_true (.inr ⟨A2, A3⟩)))
                  clear A1 A2 A3
                  refine wp_region_gr (by kernel_rfl) (by kernel_rfl) (fun hq1 hq2 => ?_)
                  repeat (first | go_big_quiet_skip | (go_big_quiet_want; go_big_quiet_op; first | go_big_quiet_on | (apply Exists.intro; refine ⟨fun _ => ?_, ?_⟩; (· (fail)); go_big_quiet_on)))
                  refine wpQuiet_nil ?_
                  clear hq1 hq2
                  rintro w6 ⟨⟨_, hg6⟩, rfl⟩
                  obtain ⟨hc6, hf6⟩ := hg6.cells
                  have hz6 := hg6.size
                  (try simp at hz6); (try have hl6_0_0 : w.heap.size < w6.heap.size := by omega); (try have hm6_0_0 : w.heap.size ≤ w6.heap.size := by omega); (try have hl6_0_1 : w.heap.size + 1 < w6.heap.size := by omega); (try have hl6_0_2 : w.heap.size + 2 < w6.heap.size := by omega); (try have hl6_1_0 : w1.heap.size < w6.heap.size := by omega); (try have hm6_1_0 : w1.heap.size ≤ w6.heap.size := by omega); (try have hl6_1_1 : w1.heap.size + 1 < w6.heap.size := by omega); (try have hl6_1_2 : w1.heap.size + 2 < w6.heap.size := by omega); (try have hl6_2_0 : w2.heap.size < w6.heap.size := by omega); (try have hm6_2_0 : w2.heap.size ≤ w6.heap.size := by omega); (try have hl6_2_1 : w2.heap.size + 1 < w6.heap.size := by omega); (try have hl6_2_2 : w2.heap.size + 2 < w6.heap.size := by omega); (try have hl6_3_0 : w3.heap.size < w6.heap.size := by omega); (try have hm6_3_0 : w3.heap.size ≤ w6.heap.size := by omega); (try have hl6_3_1 : w3.heap.size + 1 < w6.heap.size := by omega); (try have hl6_3_2 : w3.heap.size + 2 < w6.heap.size := by omega); (try have hl6_4_0 : w4.heap.size < w6.heap.size := by omega); (try have hm6_4_0 : w4.heap.size ≤ w6.heap.size := by omega); (try have hl6_4_1 : w4.heap.size + 1 < w6.heap.size := by omega); (try have hl6_4_2 : w4.heap.size + 2 < w6.heap.size := by omega); (try have hl6_5_0 : w5.heap.size < w6.heap.size := by omega); (try have hm6_5_0 : w5.heap.size ≤ w6.heap.size := by omega); (try have hl6_5_1 : w5.heap.size + 1 < w6.heap.size := by omega); (try have hl6_5_2 : w5.heap.size + 2 < w6.heap.size := by omega)
                  go_wp2_with fail
                  go_meet
                  exact ⟨true, rfl, hg6, hF⟩
                · have g3 : decide (x.t < y.t) = false := decide_eq_false A3
                  have hF := Lib.hid (fin.out false (by unfold ltC; exact decide_eq_false (fun h => by rcases h with h | h; (exact A1 h); (exact A3 h.2))))
                  clear A1 A2 A3
                  refine wp_region_gr (by kernel_rfl) (by kernel_rfl) (fun hq1 hq2 => ?_)
                  repeat (first | go_big_quiet_skip | (go_big_quiet_want; go_big_quiet_op; first | go_big_quiet_on | (apply Exists.intro; refine ⟨fun _ => ?_, ?_⟩; (· (fail)); go_big_quiet_on)))
                  refine wpQuiet_nil ?_
                  clear hq1 hq2
                  rintro w6 ⟨⟨_, hg6⟩, rfl⟩
                  obtain ⟨hc6, hf6⟩ := hg6.cells
                  have hz6 := hg6.size
                  (try simp at hz6); (try have hl6_0_0 : w.heap.size < w6.heap.size := by omega); (try have hm6_0_0 : w.heap.size ≤ w6.heap.size := by omega); (try have hl6_0_1 : w.heap.size + 1 < w6.heap.size := by omega); (try have hl6_0_2 : w.heap.size + 2 < w6.heap.size := by omega); (try have hl6_1_0 : w1.heap.size < w6.heap.size := by omega); (try have hm6_1_0 : w1.heap.size ≤ w6.heap.size := by omega); (try have hl6_1_1 : w1.heap.size + 1 < w6.heap.size := by omega); (try have hl6_1_2 : w1.heap.size + 2 < w6.heap.size := by omega); (try have hl6_2_0 : w2.heap.size < w6.heap.size := by omega); (try have hm6_2_0 : w2.heap.size ≤ w6.heap.size := by omega); (try have hl6_2_1 : w2.heap.size + 1 < w6.heap.size := by omega); (try have hl6_2_2 : w2.heap.size + 2 < w6.heap.size := by omega); (try have hl6_3_0 : w3.heap.size < w6.heap.size := by omega); (try have hm6_3_0 : w3.heap.size ≤ w6.heap.size := by omega); (try have hl6_3_1 : w3.heap.size + 1 < w6.heap.size := by omega); (try have hl6_3_2 : w3.heap.size + 2 < w6.heap.size := by omega); (try have hl6_4_0 : w4.heap.size < w6.heap.size := by omega); (try have hm6_4_0 : w4.heap.size ≤ w6.heap.size := by omega); (try have hl6_4_1 : w4.heap.size + 1 < w6.heap.size := by omega); (try have hl6_4_2 : w4.heap.size + 2 < w6.heap.size := by omega); (try have hl6_5_0 : w5.heap.size < w6.heap.size := by omega); (try have hm6_5_0 : w5.heap.size ≤ w6.heap.size := by omega); (try have hl6_5_1 : w5.heap.size + 1 < w6.heap.size := by omega); (try have hl6_5_2 : w5.heap.size + 2 < w6.heap.size := by omega)
                  go_wp2_with fail
                  go_meet
                  exact ⟨false, rfl, hg6, hF⟩
              · have g2 : (x.f == y.f) = false := by simp [A2]
                have hF := Lib.hid (fin.out false (by unfold ltC; exact decide_eq_false (fun h => by rcases h with h | h; (exact A1 h); (exact A2 h.1))))
                clear A1 A2
                refine wp_region_gr (by kernel_rfl) (by kernel_rfl) (fun hq1 hq2 => ?_)
                repeat (first | go_big_quiet_skip | (go_big_quiet_want; go_big_quiet_op; first | go_big_quiet_on | (apply Exists.intro; refine ⟨fun _ => ?_, ?_⟩; (· (fail)); go_big_quiet_on)))
                refine wpQuiet_nil ?_
                clear hq1 hq2
                rintro w6 ⟨⟨_, hg6⟩, rfl⟩
                obtain ⟨hc6, hf6⟩ := hg6.cells
                have hz6 := hg6.size
                (try simp at hz6); (try have hl6_0_0 : w.heap.size < w6.heap.size := by omega); (try have hm6_0_0 : w.heap.size ≤ w6.heap.size := by omega); (try have hl6_0_1 : w.heap.size + 1 < w6.heap.size := by omega); (try have hl6_0_2 : w.heap.size + 2 < w6.heap.size := by omega); (try have hl6_1_0 : w1.heap.size < w6.heap.size := by omega); (try have hm6_1_0 : w1.heap.size ≤ w6.heap.size := by omega); (try have hl6_1_1 : w1.heap.size + 1 < w6.heap.size := by omega); (try have hl6_1_2 : w1.heap.size + 2 < w6.heap.size := by omega); (try have hl6_2_0 : w2.heap.size < w6.heap.size := by omega); (try have hm6_2_0 : w2.heap.size ≤ w6.heap.size := by omega); (try have hl6_2_1 : w2.heap.size + 1 < w6.heap.size := by omega); (try have hl6_2_2 : w2.heap.size + 2 < w6.heap.size := by omega); (try have hl6_3_0 : w3.heap.size < w6.heap.size := by omega); (try have hm6_3_0 : w3.heap.size ≤ w6.heap.size := by omega); (try have hl6_3_1 : w3.heap.size + 1 < w6.heap.size := by omega); (try have hl6_3_2 : w3.heap.size + 2 < w6.heap.size := by omega); (try have hl6_4_0 : w4.heap.size < w6.heap.size := by omega); (try have hm6_4_0 : w4.heap.size ≤ w6.heap.size := by omega); (try have hl6_4_1 : w4.heap.size + 1 < w6.heap.size := by omega); (try have hl6_4_2 : w4.heap.size + 2 < w6.heap.size := by omega); (try have hl6_5_0 : w5.heap.size < w6.heap.size := by omega); (try have hm6_5_0 : w5.heap.size ≤ w6.heap.size := by omega); (try have hl6_5_1 : w5.heap.size + 1 < w6.heap.size := by omega); (try have hl6_5_2 : w5.heap.size + 2 < w6.heap.size := by omega)
                go_wp2_with fail
                go_meet
                exact ⟨false, rfl, hg6, hF⟩
          · have g0 : decide (0 < k) = false := decide_eq_false hk0
            have g0' : decide ((0 : Int) < (k : Int)) = false := decide_eq_false (by omega)
            have hF : Hid (TellsB false (0 < k ∧ ltC x ts[k - 1]!.1 = true)) := Lib.hid ⟨fun h => (by cases h), fun h => absurd h.1 hk0⟩
            refine wp_region_gr (by kernel_rfl) (by kernel_rfl) (fun hq1 hq2 => ?_)
            repeat (first | go_big_quiet_skip | (go_big_quiet_want; go_big_quiet_op; first | go_big_quiet_on | (apply Exists.intro; refine ⟨fun _ => ?_, ?_⟩; (· (fail)); go_big_quiet_on)))
            refine wpQuiet_nil ?_
            clear hq1 hq2
            rintro w6 ⟨⟨_, hg6⟩, rfl⟩
            obtain ⟨hc6, hf6⟩ := hg6.cells
            have hz6 := hg6.size
            (try simp at hz6); (try have hl6_0_0 : w.heap.size < w6.heap.size := by omega); (try have hm6_0_0 : w.heap.size ≤ w6.heap.size := by omega); (try have hl6_0_1 : w.heap.size + 1 < w6.heap.size := by omega); (try have hl6_0_2 : w.heap.size + 2 < w6.heap.size := by omega); (try have hl6_1_0 : w1.heap.size < w6.heap.size := by omega); (try have hm6_1_0 : w1.heap.size ≤ w6.heap.size := by omega); (try have hl6_1_1 : w1.heap.size + 1 < w6.heap.size := by omega); (try have hl6_1_2 : w1.heap.size + 2 < w6.heap.size := by omega); (try have hl6_2_0 : w2.heap.size < w6.heap.size := by omega); (try have hm6_2_0 : w2.heap.size ≤ w6.heap.size := by omega); (try have hl6_2_1 : w2.heap.size + 1 < w6.heap.size := by omega); (try have hl6_2_2 : w2.heap.size + 2 < w6.heap.size := by omega); (try have hl6_3_0 : w3.heap.size < w6.heap.size := by omega); (try have hm6_3_0 : w3.heap.size ≤ w6.heap.size := by omega); (try have hl6_3_1 : w3.heap.size + 1 < w6.heap.size := by omega); (try have hl6_3_2 : w3.heap.size + 2 < w6.heap.size := by omega); (try have hl6_4_0 : w4.heap.size < w6.heap.size := by omega); (try have hm6_4_0 : w4.heap.size ≤ w6.heap.size := by omega); (try have hl6_4_1 : w4.heap.size + 1 < w6.heap.size := by omega); (try have hl6_4_2 : w4.heap.size + 2 < w6.heap.size := by omega); (try have hl6_5_0 : w5.heap.size < w6.heap.size := by omega); (try have hm6_5_0 : w5.heap.size ≤ w6.heap.size := by omega); (try have hl6_5_1 : w5.heap.size + 1 < w6.heap.size := by omega); (try have hl6_5_2 : w5.heap.size + 2 < w6.heap.size := by omega)
            go_wp2_with fail
            go_meet
            exact ⟨false, rfl, hg6, hF⟩
        case rest =>
          obtain ⟨bb, rfl, hg6, hF⟩ := hcut
          have hgy := hgx.trans hg6
          cases bb with
          | true =>
            have hF0 := hF.out.1 rfl
            have hk0 := hF0.1
            have hB2 : Hid (∀ t, k - 1 ≤ t → t < n → ltC x ts[t]!.1 = true) := Lib.hid (fun t h1 h2 => by
              rcases Nat.lt_or_ge t k with h | h
              · rw [show t = k - 1 by omega]; exact hF0.2
              · exact hB.out t h h2)
            clear hF0 hF hB
            go_wp2
            go_roundw
            case rel => exact ⟨k - 1, by go_num, by omega, hgy, hB2⟩
            case measure => simp [RowKit.intOf]; omega
          | false =>
            have hst := Lib.hid (st_more (k := k) c1 hI.out (fun t h1 h2 => by rw [hxh.out]; exact hB.out t h1 h2) (by
              rw [hxh.out]
              rcases Nat.eq_zero_or_pos k with h0 | h0
              · exact .inl h0
              · refine .inr ?_
                cases h : ltC x ts[k - 1]!.1 with
                | false => rfl
                | true => exact absurd (hF.out.2 ⟨h0, h⟩) (by decide)) hk)
            clear hF hB
            have hOw := own_gr hgy hO.out
            have hxm : x ∈ cs := by rw [← hxh.out]; exact List.getElem_mem c1
            have hx1 : x.lv.oneCell' = true := hone.out x hxm
            have y0 := (((hg.trans hgy).cells.1 bl _ hbl)).trans (hcl.out n c1).1
            have y1 := (((hg.trans hgy).cells.1 bl _ hbl)).trans (hcl.out n c1).2.1
            have y2 := (((hg.trans hgy).cells.1 bl _ hbl)).trans (hcl.out n c1).2.2
            rw [hxh.out] at y0 y1 y2
            obtain ⟨xl, hxl⟩ : ∃ xl, x.lv = xl := ⟨_, rfl⟩
            rw [hxl] at y2 hx1
            have z1 : bl < wc.heap.size := Nat.lt_of_lt_of_le hbl (hg.trans hgy).size
            have hgC := hg.trans hgy
            have hwz := hgC.size
            clear hgy hgx hg6
            go_wp2
            obtain ⟨outs, houts⟩ : ∃ outs, ts.map Prod.fst = outs := ⟨_, rfl⟩
            rw [houts] at hOw
            have hol : outs.length = n := by rw [← houts, List.length_map, htl.out]
            have hcase : (p9 = none ∧ n = 0 ∧ c9 = 0) ∨ ∃ g, p9 = some ⟨g, 0, none⟩ ∧ g < wc.heap.size ∧ n ≤ c9 := by
              have hcap := own_cap hOw
              rcases hOw.2 with ⟨h1, h2⟩ | ⟨g, cap', cur, h1, hb, hgg, hr⟩
              · injection h1 with h3 h4 h5
                exact .inl ⟨h3, h4, h5⟩
              · injection h1 with h3 h4 h5
                exact .inr ⟨g, h3, (Array.getElem?_eq_some_iff.1 hgg).1, hcap⟩
            have hRO := Rd.own hOw
            have hgU : Gr wc wc.drew := (Gr.refl wc).drew
            refine wp_region_still (Keep 16 (fun y => Gr wc y)) 16 rfl (by kernel_rfl) ?_
            show stillAny _ _ _ _ _ _ #[false, false, false, false, false, false, false, false, false, false, false, false, false, false, false, false] _ _
            have hRU := hRO.gr hgU
            have hUz : wc.heap.size ≤ wc.drew.heap.size := hgU.size
            generalize wc.drew = U at *
            refine still_pure 1 (v := .slice p9 n c9) rfl (by kernel_rfl) (by kernel_rfl) (by kernel_rfl) (fun _ => hgU) rfl (fun w hw => ?_) ?_
            · simp [execOp, go_sem] <;> (intros; omega)
            simp only [Act.put, List.setIfInBounds_toArray, List.set_cons_succ, List.set_cons_zero]
            refine still_pure 2 (v := .int .i64 k) rfl (by kernel_rfl) (by kernel_rfl) (by kernel_rfl) (fun _ => hgU) rfl (fun w hw => ?_) ?_
            · simp [execOp, go_sem] <;> (intros; omega)
            simp only [Act.put, List.setIfInBounds_toArray, List.set_cons_succ, List.set_cons_zero]
            refine still_pure 5 (v := .slice (some ⟨bl, ol, none⟩) cs.length cap) rfl (by kernel_rfl) (by kernel_rfl) (by kernel_rfl) (fun _ => hgU) rfl (fun w hw => ?_) ?_
            · simp [execOp, go_sem] <;> (intros; omega)
            simp only [Act.put, List.setIfInBounds_toArray, List.set_cons_succ, List.set_cons_zero]
            refine still_pure 6 (v := .int .i64 n) rfl (by kernel_rfl) (by kernel_rfl) (by kernel_rfl) (fun _ => hgU) rfl (fun w hw => ?_) ?_
            · simp [execOp, go_sem] <;> (intros; omega)
            simp only [Act.put, List.setIfInBounds_toArray, List.set_cons_succ, List.set_cons_zero]
            refine still_pure 7 (v := .pointer (some ⟨bl, ol + n * 3, none⟩)) rfl (by kernel_rfl) (by kernel_rfl) (by kernel_rfl) (fun _ => hgU) rfl (fun w hw => ?_) ?_
            · have i1 : (n : Int) < (cs.length : Int) := by omega
              simp [execOp, go_sem, c1]
            simp only [Act.put, List.setIfInBounds_toArray, List.set_cons_succ, List.set_cons_zero]
            refine still_pure 8 (v := .agg #[.int .i64 x.f, .int .i64 x.t, xl]) rfl (by kernel_rfl) (by kernel_rfl) (by kernel_rfl) (fun _ => hgU) rfl (fun w hw => ?_) ?_
            · replace hw := hw (by decide)
              have hq0 := (hw.cells.1 bl _ z1).trans y0
              have hq1 := (hw.cells.1 bl _ z1).trans y1
              have hq2 := (hw.cells.1 bl _ z1).trans y2
              simp [execOp, go_sem, hq0, hq1, hq2]
            simp only [Act.put, List.setIfInBounds_toArray, List.set_cons_succ, List.set_cons_zero]
            refine still_pure 11 (v := .slice p9 n c9) rfl (by kernel_rfl) (by kernel_rfl) (by kernel_rfl) (fun _ => hgU) rfl (fun w hw => ?_) ?_
            · simp [execOp, go_sem] <;> (intros; omega)
            simp only [Act.put, List.setIfInBounds_toArray, List.set_cons_succ, List.set_cons_zero]
            refine still_pure 12 (v := .int .i64 k) rfl (by kernel_rfl) (by kernel_rfl) (by kernel_rfl) (fun _ => hgU) rfl (fun w hw => ?_) ?_
            · simp [execOp, go_sem] <;> (intros; omega)
            simp only [Act.put, List.setIfInBounds_toArray, List.set_cons_succ, List.set_cons_zero]
            have one_ : ∀ u ∈ flat outs, u.oneCell' = true := by
              intro u hu
              unfold flat at hu
              obtain ⟨c, hc, hu⟩ := List.mem_flatMap.1 hu
              rw [← houts] at hc
              exact cu_oneCell (hone.out c (List.mem_of_mem_take (hI.out.mem c hc))) u hu
            have one3 : ∀ u ∈ flat (outs.take k), u.oneCell' = true := fun u hu => one_ u (by rw [← flat_take] at hu; exact List.mem_of_mem_take hu)
            have one13 : ∀ u ∈ flat (outs.drop k), u.oneCell' = true := fun u hu => one_ u (by rw [← flat_drop] at hu; exact List.mem_of_mem_drop hu)
            have onex : ∀ u ∈ [Value.int .i64 x.f, Value.int .i64 x.t, xl], u.oneCell' = true := by
              intro u hu
              simp at hu
              rcases hu with rfl | rfl | rfl
              · rfl
              · rfl
              · exact hx1
            have hfl : Hid (flat ((ts.take k ++ (cs[n], n) :: ts.drop k).map Prod.fst) = (flat (outs.take k) ++ [.int .i64 x.f, .int .i64 x.t, xl]) ++ flat (outs.drop k)) := Lib.hid (by
              rw [List.map_append, List.map_cons, flat_append, show ∀ (c : Cu) (l : List Cu), flat (c :: l) = c.cells ++ flat l from fun _ _ => rfl, List.map_take, List.map_drop, houts, hxh.out, ← hxl, List.append_assoc]
              rfl)
            have one3 := Lib.hid one3
            have one13 := Lib.hid one13
            have onex := Lib.hid onex
            have huU : Gr U U := Gr.refl U
            clear one_ houts
            rcases hcase with ⟨rfl, hn0, rfl⟩ | ⟨g9, rfl, hg9, hcap⟩
            · have hk0 : k = 0 := by omega
              obtain ⟨s3, hs3⟩ : ∃ s3 : Value, .slice none 0 0 = s3 := ⟨_, rfl⟩
              obtain ⟨s13, hs13⟩ : ∃ s13 : Value, .slice none 0 0 = s13 := ⟨_, rfl⟩
              refine still_pure 3 (v := s3) rfl (by kernel_rfl) (by kernel_rfl) (by kernel_rfl) (fun _ => hgU) rfl (fun w hw => ?_) ?_
              · simp [execOp, go_sem, hk0, hn0, ← hs3]
              simp only [Act.put, List.setIfInBounds_toArray, List.set_cons_succ, List.set_cons_zero]
              refine still_pure 13 (v := s13) rfl (by kernel_rfl) (by kernel_rfl) (by kernel_rfl) (fun _ => hgU) rfl (fun w hw => ?_) ?_
              · simp [execOp, go_sem, hk0, hn0, ← hs13]
              simp only [Act.put, List.setIfInBounds_toArray, List.set_cons_succ, List.set_cons_zero]
              have hout0 : outs = [] := List.eq_nil_of_length_eq_zero (by omega)
              have R3 : Rd U s3 k 3 (flat (outs.take k)) := by rw [← hs3, hk0, hout0]; exact Rd.nil U 3
              have R13 : Rd U s13 (n - k) 3 (flat (outs.drop k)) := by rw [← hs13, show n - k = 0 by omega, hout0, List.drop_nil]; exact Rd.nil U 3
              clear hs3 hs13 hout0 hRU hn0 hk0
              refine still_both (i := 0) (j := 9) (by kernel_rfl) (by rfl) (by rfl) (fun R hR => ?_) (fun R hR => ?_)
              · (try simp only [List.getElem_toArray, List.getElem_cons_succ, List.getElem_cons_zero])
                go_wp2_with fail
                have hE := own_empty U U.heap.size 66 3 (Nat.le_refl _)
                have hu0 := huU.alloc (.cells #[] 66)
                obtain ⟨B0, hB0⟩ : ∃ B0, U.heap.size = B0 := ⟨_, rfl⟩
                have hB0u : U.heap.size ≤ B0 := by have := huU.size; omega
                have hB0lt : B0 < (U.alloc (.cells #[] 66)).heap.size := by simp; omega
                rw [hB0] at hE
                have hE := own_low hB0u hE
                refine only_normal (hR _ _ (Keep.step (fun _ => hgU.trans hu0)) ?_)
                clear hR R
                simp only [Act.put, List.setIfInBounds_toArray, List.set_cons_succ, List.set_cons_zero]
                (try rw [hB0])
                clear hB0
                generalize U.alloc (.cells #[] 66) = W0 at *
                refine still_both (i := 4) (j := 9) (by kernel_rfl) (by rfl) (by rfl) (fun R hR => ?_) (fun R hR => ?_)
                · (try simp only [List.getElem_toArray, List.getElem_cons_succ, List.getElem_cons_zero])
                  go_wp2_with (at_builtin; go_loud (refine wpList_append_rd rfl (.tmp 60) (.tmp 63) 22 rfl U.heap.size 66 ic (.agg #[.int .i64 0, .int .i64 0, .slice none 0 0]) 3 40 (by kernel_rfl) hic hic0 hic1 hic2 rfl (by decide) (.slice (some ⟨B0, 0, none⟩) 0 0) 0 _ rfl hE s3 k (flat (outs.take k)) rfl (R3.gr hu0) one3.out ?_ ?_ ?_ ?_; (· unfold maxLen; omega); (· omega); (· exact hu0.size); intro v4 w4 own4 grow4))
                  have hu4 := hu0.grown grow4 (fun k hk => by have hk2 : some B0 = some k := hk; injection hk2 with hk2; omega)
                  clear grow4
                  refine only_normal (hR _ _ (Keep.step (fun _ => hgU.trans hu4)) ?_)
                  clear hR R
                  simp only [Act.put, List.setIfInBounds_toArray, List.set_cons_succ, List.set_cons_zero]
                  refine still_next (j := 9) (by kernel_rfl) (by rfl) (fun R hR => ?_)
                  (try simp only [List.getElem_toArray, List.getElem_cons_succ, List.getElem_cons_zero])
                  go_wp2_with fail
                  have R9 := Rd.new w4 #[.int .i64 x.f, .int .i64 x.t, xl] 66 1 3 1 rfl
                  have hu9 := hu4.alloc (.cells #[.int .i64 x.f, .int .i64 x.t, xl] 66)
                  obtain ⟨B9, hB9⟩ : ∃ B9, w4.heap.size = B9 := ⟨_, rfl⟩
                  have hB9u : U.heap.size ≤ B9 := by have := hu4.size; omega
                  have hB9lt : B9 < (w4.alloc (.cells #[.int .i64 x.f, .int .i64 x.t, xl] 66)).heap.size := by simp; omega
                  rw [hB9] at R9
                  have own4 := own_gr ((Gr.refl w4).alloc (.cells #[.int .i64 x.f, .int .i64 x.t, xl] 66)) own4
                  refine only_normal (hR _ _ (Keep.step (fun _ => hgU.trans hu9)) ?_)
                  clear hR R
                  simp only [Act.put, List.setIfInBounds_toArray, List.set_cons_succ, List.set_cons_zero]
                  (try rw [hB9])
                  clear hB9
                  generalize w4.alloc (.cells #[.int .i64 x.f, .int .i64 x.t, xl] 66) = W9 at *
                  refine still_next (j := 10) (by kernel_rfl) (by rfl) (fun R hR => ?_)
                  (try simp only [List.getElem_toArray, List.getElem_cons_succ, List.getElem_cons_zero])
                  go_wp2_with (at_builtin; go_loud (refine wpList_append_rd rfl (.tmp 64) (.tmp 69) 22 rfl U.heap.size 66 ic (.agg #[.int .i64 0, .int .i64 0, .slice none 0 0]) 3 40 (by kernel_rfl) hic hic0 hic1 hic2 rfl (by decide) v4 (0 + k) _ rfl own4 (.slice (some ⟨B9, 0, none⟩) 1 1) 1 [.int .i64 x.f, .int .i64 x.t, xl] rfl R9 onex.out ?_ ?_ ?_ ?_; (· unfold maxLen; omega); (· omega); (· exact hu9.size); intro v10 w10 own10 grow10))
                  have hge4 := own_ge (own4)
                  have hu10 := hu9.grown grow10 (fun k hk => hge4 k hk)
                  clear grow10
                  refine only_normal (hR _ _ (Keep.step (fun _ => hgU.trans hu10)) ?_)
                  clear hR R
                  simp only [Act.put, List.setIfInBounds_toArray, List.set_cons_succ, List.set_cons_zero]
                  refine still_next (j := 14) (by kernel_rfl) (by rfl) (fun R hR => ?_)
                  (try simp only [List.getElem_toArray, List.getElem_cons_succ, List.getElem_cons_zero])
                  go_wp2_with (at_builtin; go_loud (refine wpList_append_rd rfl (.tmp 70) (.tmp 73) 22 rfl U.heap.size 66 ic (.agg #[.int .i64 0, .int .i64 0, .slice none 0 0]) 3 40 (by kernel_rfl) hic hic0 hic1 hic2 rfl (by decide) v10 (0 + k + 1) _ rfl own10 s13 (n - k) (flat (outs.drop k)) rfl (R13.gr hu10) one13.out ?_ ?_ ?_ ?_; (· unfold maxLen; omega); (· omega); (· exact hu10.size); intro v14 w14 own14 grow14))
                  have hge10 := own_ge own10
                  have hu14 := hu10.grown grow14 (fun k hk => hge10 k hk)
                  clear grow14
                  refine only_normal (hR _ _ (Keep.step (fun _ => hgU.trans hu14)) ?_)
                  clear hR R
                  simp only [Act.put, List.setIfInBounds_toArray, List.set_cons_succ, List.set_cons_zero]
                  have hgE := hgU.trans hu14
                  refine still_pure 15 (v := v14) rfl (by kernel_rfl) (by kernel_rfl) (by kernel_rfl) (fun _ => hgE) rfl (fun w hw => ?_) ?_
                  · simp [execOp, go_sem] <;> (intros; omega)
                  simp only [Act.put, List.setIfInBounds_toArray, List.set_cons_succ, List.set_cons_zero]
                  refine still_done (by kernel_rfl) ?_
                  (try simp only [List.getElem_toArray, List.getElem_cons_succ, List.getElem_cons_zero, List.setIfInBounds_toArray, List.set_cons_succ, List.set_cons_zero])
                  have own14 := own_low (base' := w.heap.size) (Nat.le_trans hwz hUz) own14
                  rw [show 0 + k + 1 + (n - k) = n + 1 by omega, List.nil_append, ← hfl.out] at own14
                  have own14 := Lib.hid own14
                  have hgF := Lib.hid (hgC.trans hgE)
                  clear own10 hu10 hu14 hgE hge4 hge10
                  go_wp2
                  go_roundw
                  case rel => exact ⟨n + 1, _, by go_num, by omega, hgF.out, own14.out, hst⟩
                  case measure => simp [RowKit.intOf]; omega
                · (try simp only [List.getElem_toArray, List.getElem_cons_succ, List.getElem_cons_zero])
                  go_wp2_with fail
                  have R9 := Rd.new W0 #[.int .i64 x.f, .int .i64 x.t, xl] 66 1 3 1 rfl
                  have hu9 := hu0.alloc (.cells #[.int .i64 x.f, .int .i64 x.t, xl] 66)
                  obtain ⟨B9, hB9⟩ : ∃ B9, W0.heap.size = B9 := ⟨_, rfl⟩
                  have hB9u : U.heap.size ≤ B9 := by have := hu0.size; omega
                  have hB9lt : B9 < (W0.alloc (.cells #[.int .i64 x.f, .int .i64 x.t, xl] 66)).heap.size := by simp; omega
                  rw [hB9] at R9
                  have hE := own_gr ((Gr.refl W0).alloc (.cells #[.int .i64 x.f, .int .i64 x.t, xl] 66)) hE
                  have hne : B9 ≠ B0 := by omega
                  refine only_normal (hR _ _ (Keep.step (fun _ => hgU.trans hu9)) ?_)
                  clear hR R
                  simp only [Act.put, List.setIfInBounds_toArray, List.set_cons_succ, List.set_cons_zero]
                  (try rw [hB9])
                  clear hB9
                  generalize W0.alloc (.cells #[.int .i64 x.f, .int .i64 x.t, xl] 66) = W9 at *
                  refine still_next (j := 4) (by kernel_rfl) (by rfl) (fun R hR => ?_)
                  (try simp only [List.getElem_toArray, List.getElem_cons_succ, List.getElem_cons_zero])
                  go_wp2_with (at_builtin; go_loud (refine wpList_append_rd rfl (.tmp 60) (.tmp 63) 22 rfl U.heap.size 66 ic (.agg #[.int .i64 0, .int .i64 0, .slice none 0 0]) 3 40 (by kernel_rfl) hic hic0 hic1 hic2 rfl (by decide) (.slice (some ⟨B0, 0, none⟩) 0 0) 0 _ rfl hE s3 k (flat (outs.take k)) rfl (R3.gr hu9) one3.out ?_ ?_ ?_ ?_; (· unfold maxLen; omega); (· omega); (· exact hu9.size); intro v4 w4 own4 grow4))
                  have hu4 := hu9.grown grow4 (fun k hk => by have hk2 : some B0 = some k := hk; injection hk2 with hk2; omega)
                  have R9 := Rd.grown grow4 (.inr (.inl (fun h => hne (by have h2 : some B9 = some B0 := h; injection h2)))) R9
                  clear grow4
                  refine only_normal (hR _ _ (Keep.step (fun _ => hgU.trans hu4)) ?_)
                  clear hR R
                  simp only [Act.put, List.setIfInBounds_toArray, List.set_cons_succ, List.set_cons_zero]
                  refine still_next (j := 10) (by kernel_rfl) (by rfl) (fun R hR => ?_)
                  (try simp only [List.getElem_toArray, List.getElem_cons_succ, List.getElem_cons_zero])
                  go_wp2_with (at_builtin; go_loud (refine wpList_append_rd rfl (.tmp 64) (.tmp 69) 22 rfl U.heap.size 66 ic (.agg #[.int .i64 0, .int .i64 0, .slice none 0 0]) 3 40 (by kernel_rfl) hic hic0 hic1 hic2 rfl (by decide) v4 (0 + k) _ rfl own4 (.slice (some ⟨B9, 0, none⟩) 1 1) 1 [.int .i64 x.f, .int .i64 x.t, xl] rfl R9 onex.out ?_ ?_ ?_ ?_; (· unfold maxLen; omega); (· omega); (· exact hu4.size); intro v10 w10 own10 grow10))
                  have hge4 := own_ge (own4)
                  have hu10 := hu4.grown grow10 (fun k hk => hge4 k hk)
                  clear grow10
                  refine only_normal (hR _ _ (Keep.step (fun _ => hgU.trans hu10)) ?_)
                  clear hR R
                  simp only [Act.put, List.setIfInBounds_toArray, List.set_cons_succ, List.set_cons_zero]
                  refine still_next (j := 14) (by kernel_rfl) (by rfl) (fun R hR => ?_)
                  (try simp only [List.getElem_toArray, List.getElem_cons_succ, List.getElem_cons_zero])
                  go_wp2_with (at_builtin; go_loud (refine wpList_append_rd rfl (.tmp 70) (.tmp 73) 22 rfl U.heap.size 66 ic (.agg #[.int .i64 0, .int .i64 0, .slice none 0 0]) 3 40 (by kernel_rfl) hic hic0 hic1 hic2 rfl (by decide) v10 (0 + k + 1) _ rfl own10 s13 (n - k) (flat (outs.drop k)) rfl (R13.gr hu10) one13.out ?_ ?_ ?_ ?_; (· unfold maxLen; omega); (· omega); (· exact hu10.size); intro v14 w14 own14 grow14))
                  have hge10 := own_ge own10
                  have hu14 := hu10.grown grow14 (fun k hk => hge10 k hk)
                  clear grow14
                  refine only_normal (hR _ _ (Keep.step (fun _ => hgU.trans hu14)) ?_)
                  clear hR R
                  simp only [Act.put, List.setIfInBounds_toArray, List.set_cons_succ, List.set_cons_zero]
                  have hgE := hgU.trans hu14
                  refine still_pure 15 (v := v14) rfl (by kernel_rfl) (by kernel_rfl) (by kernel_rfl) (fun _ => hgE) rfl (fun w hw => ?_) ?_
                  · simp [execOp, go_sem] <;> (intros; omega)
                  simp only [Act.put, List.setIfInBounds_toArray, List.set_cons_succ, List.set_cons_zero]
                  refine still_done (by kernel_rfl) ?_
                  (try simp only [List.getElem_toArray, List.getElem_cons_succ, List.getElem_cons_zero, List.setIfInBounds_toArray, List.set_cons_succ, List.set_cons_zero])
                  have own14 := own_low (base' := w.heap.size) (Nat.le_trans hwz hUz) own14
                  rw [show 0 + k + 1 + (n - k) = n + 1 by omega, List.nil_append, ← hfl.out] at own14
                  have own14 := Lib.hid own14
                  have hgF := Lib.hid (hgC.trans hgE)
                  clear own10 hu10 hu14 hgE hge4 hge10
                  go_wp2
                  go_roundw
                  case rel => exact ⟨n + 1, _, by go_num, by omega, hgF.out, own14.out, hst⟩
                  case measure => simp [RowKit.intOf]; omega
              · (try simp only [List.getElem_toArray, List.getElem_cons_succ, List.getElem_cons_zero])
                go_wp2_with fail
                have R9 := Rd.new U #[.int .i64 x.f, .int .i64 x.t, xl] 66 1 3 1 rfl
                have hu9 := huU.alloc (.cells #[.int .i64 x.f, .int .i64 x.t, xl] 66)
                obtain ⟨B9, hB9⟩ : ∃ B9, U.heap.size = B9 := ⟨_, rfl⟩
                have hB9u : U.heap.size ≤ B9 := by have := huU.size; omega
                have hB9lt : B9 < (U.alloc (.cells #[.int .i64 x.f, .int .i64 x.t, xl] 66)).heap.size := by simp; omega
                rw [hB9] at R9
                refine only_normal (hR _ _ (Keep.step (fun _ => hgU.trans hu9)) ?_)
                clear hR R
                simp only [Act.put, List.setIfInBounds_toArray, List.set_cons_succ, List.set_cons_zero]
                (try rw [hB9])
                clear hB9
                generalize U.alloc (.cells #[.int .i64 x.f, .int .i64 x.t, xl] 66) = W9 at *
                refine still_next (j := 0) (by kernel_rfl) (by rfl) (fun R hR => ?_)
                (try simp only [List.getElem_toArray, List.getElem_cons_succ, List.getElem_cons_zero])
                go_wp2_with fail
                have hE := own_empty W9 W9.heap.size 66 3 (Nat.le_refl _)
                have hu0 := hu9.alloc (.cells #[] 66)
                obtain ⟨B0, hB0⟩ : ∃ B0, W9.heap.size = B0 := ⟨_, rfl⟩
                have hB0u : U.heap.size ≤ B0 := by have := hu9.size; omega
                have hB0lt : B0 < (W9.alloc (.cells #[] 66)).heap.size := by simp; omega
                rw [hB0] at hE
                have hE := own_low hB0u hE
                have R9 := R9.gr ((Gr.refl W9).alloc (.cells #[] 66))
                have hne : B9 ≠ B0 := by omega
                refine only_normal (hR _ _ (Keep.step (fun _ => hgU.trans hu0)) ?_)
                clear hR R
                simp only [Act.put, List.setIfInBounds_toArray, List.set_cons_succ, List.set_cons_zero]
                (try rw [hB0])
                clear hB0
                generalize W9.alloc (.cells #[] 66) = W0 at *
                refine still_next (j := 4) (by kernel_rfl) (by rfl) (fun R hR => ?_)
                (try simp only [List.getElem_toArray, List.getElem_cons_succ, List.getElem_cons_zero])
                go_wp2_with (at_builtin; go_loud (refine wpList_append_rd rfl (.tmp 60) (.tmp 63) 22 rfl U.heap.size 66 ic (.agg #[.int .i64 0, .int .i64 0, .slice none 0 0]) 3 40 (by kernel_rfl) hic hic0 hic1 hic2 rfl (by decide) (.slice (some ⟨B0, 0, none⟩) 0 0) 0 _ rfl hE s3 k (flat (outs.take k)) rfl (R3.gr hu0) one3.out ?_ ?_ ?_ ?_; (· unfold maxLen; omega); (· omega); (· exact hu0.size); intro v4 w4 own4 grow4))
                have hu4 := hu0.grown grow4 (fun k hk => by have hk2 : some B0 = some k := hk; injection hk2 with hk2; omega)
                have R9 := Rd.grown grow4 (.inr (.inl (fun h => hne (by have h2 : some B9 = some B0 := h; injection h2)))) R9
                clear grow4
                refine only_normal (hR _ _ (Keep.step (fun _ => hgU.trans hu4)) ?_)
                clear hR R
                simp only [Act.put, List.setIfInBounds_toArray, List.set_cons_succ, List.set_cons_zero]
                refine still_next (j := 10) (by kernel_rfl) (by rfl) (fun R hR => ?_)
                (try simp only [List.getElem_toArray, List.getElem_cons_succ, List.getElem_cons_zero])
                go_wp2_with (at_builtin; go_loud (refine wpList_append_rd rfl (.tmp 64) (.tmp 69) 22 rfl U.heap.size 66 ic (.agg #[.int .i64 0, .int .i64 0, .slice none 0 0]) 3 40 (by kernel_rfl) hic hic0 hic1 hic2 rfl (by decide) v4 (0 + k) _ rfl own4 (.slice (some ⟨B9, 0, none⟩) 1 1) 1 [.int .i64 x.f, .int .i64 x.t, xl] rfl R9 onex.out ?_ ?_ ?_ ?_; (· unfold maxLen; omega); (· omega); (· exact hu4.size); intro v10 w10 own10 grow10))
                have hge4 := own_ge (own4)
                have hu10 := hu4.grown grow10 (fun k hk => hge4 k hk)
                clear grow10
                refine only_normal (hR _ _ (Keep.step (fun _ => hgU.trans hu10)) ?_)
                clear hR R
                simp only [Act.put, List.setIfInBounds_toArray, List.set_cons_succ, List.set_cons_zero]
                refine still_next (j := 14) (by kernel_rfl) (by rfl) (fun R hR => ?_)
                (try simp only [List.getElem_toArray, List.getElem_cons_succ, List.getElem_cons_zero])
                go_wp2_with (at_builtin; go_loud (refine wpList_append_rd rfl (.tmp 70) (.tmp 73) 22 rfl U.heap.size 66 ic (.agg #[.int .i64 0, .int .i64 0, .slice none 0 0]) 3 40 (by kernel_rfl) hic hic0 hic1 hic2 rfl (by decide) v10 (0 + k + 1) _ rfl own10 s13 (n - k) (flat (outs.drop k)) rfl (R13.gr hu10) one13.out ?_ ?_ ?_ ?_; (· unfold maxLen; omega); (· omega); (· exact hu10.size); intro v14 w14 own14 grow14))
                have hge10 := own_ge own10
                have hu14 := hu10.grown grow14 (fun k hk => hge10 k hk)
                clear grow14
                refine only_normal (hR _ _ (Keep.step (fun _ => hgU.trans hu14)) ?_)
                clear hR R
                simp only [Act.put, List.setIfInBounds_toArray, List.set_cons_succ, List.set_cons_zero]
                have hgE := hgU.trans hu14
                refine still_pure 15 (v := v14) rfl (by kernel_rfl) (by kernel_rfl) (by kernel_rfl) (fun _ => hgE) rfl (fun w hw => ?_) ?_
                · simp [execOp, go_sem] <;> (intros; omega)
                simp only [Act.put, List.setIfInBounds_toArray, List.set_cons_succ, List.set_cons_zero]
                refine still_done (by kernel_rfl) ?_
                (try simp only [List.getElem_toArray, List.getElem_cons_succ, List.getElem_cons_zero, List.setIfInBounds_toArray, List.set_cons_succ, List.set_cons_zero])
                have own14 := own_low (base' := w.heap.size) (Nat.le_trans hwz hUz) own14
                rw [show 0 + k + 1 + (n - k) = n + 1 by omega, List.nil_append, ← hfl.out] at own14
                have own14 := Lib.hid own14
                have hgF := Lib.hid (hgC.trans hgE)
                clear own10 hu10 hu14 hgE hge4 hge10
                go_wp2
                go_roundw
                case rel => exact ⟨n + 1, _, by go_num, by omega, hgF.out, own14.out, hst⟩
                case measure => simp [RowKit.intOf]; omega
            · obtain ⟨q, hq⟩ : ∃ q, (if c9 = k then 0 else k * 3) = q := ⟨_, rfl⟩
              obtain ⟨s3, hs3⟩ : ∃ s3 : Value, .slice (some ⟨g9, 0, none⟩) k c9 = s3 := ⟨_, rfl⟩
              obtain ⟨s13, hs13⟩ : ∃ s13 : Value, .slice (some ⟨g9, q, none⟩) (n - k) (c9 - k) = s13 := ⟨_, rfl⟩
              have i1 : k ≤ c9 := by omega
              refine still_pure 3 (v := s3) rfl (by kernel_rfl) (by kernel_rfl) (by kernel_rfl) (fun _ => hgU) rfl (fun w hw => ?_) ?_
              · simp [execOp, go_sem, i1, ← hs3]
              simp only [Act.put, List.setIfInBounds_toArray, List.set_cons_succ, List.set_cons_zero]
              refine still_pure 13 (v := s13) rfl (by kernel_rfl) (by kernel_rfl) (by kernel_rfl) (fun _ => hgU) rfl (fun w hw => ?_) ?_
              · by_cases hck : c9 = k
                · simp [execOp, go_sem, i1, hk, ← hs13, ← hq, hck]
                · simp [execOp, go_sem, i1, hk, ← hs13, ← hq, hck]
              simp only [Act.put, List.setIfInBounds_toArray, List.set_cons_succ, List.set_cons_zero]
              have R3 : Rd U s3 k 3 (flat (outs.take k)) := by rw [← hs3, ← flat_take]; exact Rd.first3 hRU k hk
              have R13 : Rd U s13 (n - k) 3 (flat (outs.drop k)) := by
                rw [← hs13, ← flat_drop]
                by_cases hnk : n = k
                · refine ⟨by rw [List.length_drop, flat_length]; omega, _, _, rfl, .inl ⟨by omega, fun h => by cases h⟩⟩
                · have hq2 : q = 0 + k * 3 := by rw [← hq, if_neg (by omega)]; omega
                  rw [hq2]
                  exact Rd.rest3 hRU k hk
              clear hs3 hs13 hRU hq i1
              refine still_both (i := 0) (j := 9) (by kernel_rfl) (by rfl) (by rfl) (fun R hR => ?_) (fun R hR => ?_)
              · (try simp only [List.getElem_toArray, List.getElem_cons_succ, List.getElem_cons_zero])
                go_wp2_with fail
                have hE := own_empty U U.heap.size 66 3 (Nat.le_refl _)
                have hu0 := huU.alloc (.cells #[] 66)
                obtain ⟨B0, hB0⟩ : ∃ B0, U.heap.size = B0 := ⟨_, rfl⟩
                have hB0u : U.heap.size ≤ B0 := by have := huU.size; omega
                have hB0lt : B0 < (U.alloc (.cells #[] 66)).heap.size := by simp; omega
                rw [hB0] at hE
                have hE := own_low hB0u hE
                refine only_normal (hR _ _ (Keep.step (fun _ => hgU.trans hu0)) ?_)
                clear hR R
                simp only [Act.put, List.setIfInBounds_toArray, List.set_cons_succ, List.set_cons_zero]
                (try rw [hB0])
                clear hB0
                generalize U.alloc (.cells #[] 66) = W0 at *
                refine still_both (i := 4) (j := 9) (by kernel_rfl) (by rfl) (by rfl) (fun R hR => ?_) (fun R hR => ?_)
                · (try simp only [List.getElem_toArray, List.getElem_cons_succ, List.getElem_cons_zero])
                  go_wp2_with (at_builtin; go_loud (refine wpList_append_rd rfl (.tmp 60) (.tmp 63) 22 rfl U.heap.size 66 ic (.agg #[.int .i64 0, .int .i64 0, .slice none 0 0]) 3 40 (by kernel_rfl) hic hic0 hic1 hic2 rfl (by decide) (.slice (some ⟨B0, 0, none⟩) 0 0) 0 _ rfl hE s3 k (flat (outs.take k)) rfl (R3.gr hu0) one3.out ?_ ?_ ?_ ?_; (· unfold maxLen; omega); (· omega); (· exact hu0.size); intro v4 w4 own4 grow4))
                  have hu4 := hu0.grown grow4 (fun k hk => by have hk2 : some B0 = some k := hk; injection hk2 with hk2; omega)
                  clear grow4
                  refine only_normal (hR _ _ (Keep.step (fun _ => hgU.trans hu4)) ?_)
                  clear hR R
                  simp only [Act.put, List.setIfInBounds_toArray, List.set_cons_succ, List.set_cons_zero]
                  refine still_next (j := 9) (by kernel_rfl) (by rfl) (fun R hR => ?_)
                  (try simp only [List.getElem_toArray, List.getElem_cons_succ, List.getElem_cons_zero])
                  go_wp2_with fail
                  have R9 := Rd.new w4 #[.int .i64 x.f, .int .i64 x.t, xl] 66 1 3 1 rfl
                  have hu9 := hu4.alloc (.cells #[.int .i64 x.f, .int .i64 x.t, xl] 66)
                  obtain ⟨B9, hB9⟩ : ∃ B9, w4.heap.size = B9 := ⟨_, rfl⟩
                  have hB9u : U.heap.size ≤ B9 := by have := hu4.size; omega
                  have hB9lt : B9 < (w4.alloc (.cells #[.int .i64 x.f, .int .i64 x.t, xl] 66)).heap.size := by simp; omega
                  rw [hB9] at R9
                  have own4 := own_gr ((Gr.refl w4).alloc (.cells #[.int .i64 x.f, .int .i64 x.t, xl] 66)) own4
                  refine only_normal (hR _ _ (Keep.step (fun _ => hgU.trans hu9)) ?_)
                  clear hR R
                  simp only [Act.put, List.setIfInBounds_toArray, List.set_cons_succ, List.set_cons_zero]
                  (try rw [hB9])
                  clear hB9
                  generalize w4.alloc (.cells #[.int .i64 x.f, .int .i64 x.t, xl] 66) = W9 at *
                  refine still_next (j := 10) (by kernel_rfl) (by rfl) (fun R hR => ?_)
                  (try simp only [List.getElem_toArray, List.getElem_cons_succ, List.getElem_cons_zero])
                  go_wp2_with (at_builtin; go_loud (refine wpList_append_rd rfl (.tmp 64) (.tmp 69) 22 rfl U.heap.size 66 ic (.agg #[.int .i64 0, .int .i64 0, .slice none 0 0]) 3 40 (by kernel_rfl) hic hic0 hic1 hic2 rfl (by decide) v4 (0 + k) _ rfl own4 (.slice (some ⟨B9, 0, none⟩) 1 1) 1 [.int .i64 x.f, .int .i64 x.t, xl] rfl R9 onex.out ?_ ?_ ?_ ?_; (· unfold maxLen; omega); (· omega); (· exact hu9.size); intro v10 w10 own10 grow10))
                  have hge4 := own_ge (own4)
                  have hu10 := hu9.grown grow10 (fun k hk => hge4 k hk)
                  clear grow10
                  refine only_normal (hR _ _ (Keep.step (fun _ => hgU.trans hu10)) ?_)
                  clear hR R
                  simp only [Act.put, List.setIfInBounds_toArray, List.set_cons_succ, List.set_cons_zero]
                  refine still_next (j := 14) (by kernel_rfl) (by rfl) (fun R hR => ?_)
                  (try simp only [List.getElem_toArray, List.getElem_cons_succ, List.getElem_cons_zero])
                  go_wp2_with (at_builtin; go_loud (refine wpList_append_rd rfl (.tmp 70) (.tmp 73) 22 rfl U.heap.size 66 ic (.agg #[.int .i64 0, .int .i64 0, .slice none 0 0]) 3 40 (by kernel_rfl) hic hic0 hic1 hic2 rfl (by decide) v10 (0 + k + 1) _ rfl own10 s13 (n - k) (flat (outs.drop k)) rfl (R13.gr hu10) one13.out ?_ ?_ ?_ ?_; (· unfold maxLen; omega); (· omega); (· exact hu10.size); intro v14 w14 own14 grow14))
                  have hge10 := own_ge own10
                  have hu14 := hu10.grown grow14 (fun k hk => hge10 k hk)
                  clear grow14
                  refine only_normal (hR _ _ (Keep.step (fun _ => hgU.trans hu14)) ?_)
                  clear hR R
                  simp only [Act.put, List.setIfInBounds_toArray, List.set_cons_succ, List.set_cons_zero]
                  have hgE := hgU.trans hu14
                  refine still_pure 15 (v := v14) rfl (by kernel_rfl) (by kernel_rfl) (by kernel_rfl) (fun _ => hgE) rfl (fun w hw => ?_) ?_
                  · simp [execOp, go_sem] <;> (intros; omega)
                  simp only [Act.put, List.setIfInBounds_toArray, List.set_cons_succ, List.set_cons_zero]
                  refine still_done (by kernel_rfl) ?_
                  (try simp only [List.getElem_toArray, List.getElem_cons_succ, List.getElem_cons_zero, List.setIfInBounds_toArray, List.set_cons_succ, List.set_cons_zero])
                  have own14 := own_low (base' := w.heap.size) (Nat.le_trans hwz hUz) own14
                  rw [show 0 + k + 1 + (n - k) = n + 1 by omega, List.nil_append, ← hfl.out] at own14
                  have own14 := Lib.hid own14
                  have hgF := Lib.hid (hgC.trans hgE)
                  clear own10 hu10 hu14 hgE hge4 hge10
                  go_wp2
                  go_roundw
                  case rel => exact ⟨n + 1, _, by go_num, by omega, hgF.out, own14.out, hst⟩
                  case measure => simp [RowKit.intOf]; omega
                · (try simp only [List.getElem_toArray, List.getElem_cons_succ, List.getElem_cons_zero])
                  go_wp2_with fail
                  have R9 := Rd.new W0 #[.int .i64 x.f, .int .i64 x.t, xl] 66 1 3 1 rfl
                  have hu9 := hu0.alloc (.cells #[.int .i64 x.f, .int .i64 x.t, xl] 66)
                  obtain ⟨B9, hB9⟩ : ∃ B9, W0.heap.size = B9 := ⟨_, rfl⟩
                  have hB9u : U.heap.size ≤ B9 := by have := hu0.size; omega
                  have hB9lt : B9 < (W0.alloc (.cells #[.int .i64 x.f, .int .i64 x.t, xl] 66)).heap.size := by simp; omega
                  rw [hB9] at R9
                  have hE := own_gr ((Gr.refl W0).alloc (.cells #[.int .i64 x.f, .int .i64 x.t, xl] 66)) hE
                  have hne : B9 ≠ B0 := by omega
                  refine only_normal (hR _ _ (Keep.step (fun _ => hgU.trans hu9)) ?_)
                  clear hR R
                  simp only [Act.put, List.setIfInBounds_toArray, List.set_cons_succ, List.set_cons_zero]
                  (try rw [hB9])
                  clear hB9
                  generalize W0.alloc (.cells #[.int .i64 x.f, .int .i64 x.t, xl] 66) = W9 at *
                  refine still_next (j := 4) (by kernel_rfl) (by rfl) (fun R hR => ?_)
                  (try simp only [List.getElem_toArray, List.getElem_cons_succ, List.getElem_cons_zero])
                  go_wp2_with (at_builtin; go_loud (refine wpList_append_rd rfl (.tmp 60) (.tmp 63) 22 rfl U.heap.size 66 ic (.agg #[.int .i64 0, .int .i64 0, .slice none 0 0]) 3 40 (by kernel_rfl) hic hic0 hic1 hic2 rfl (by decide) (.slice (some ⟨B0, 0, none⟩) 0 0) 0 _ rfl hE s3 k (flat (outs.take k)) rfl (R3.gr hu9) one3.out ?_ ?_ ?_ ?_; (· unfold maxLen; omega); (· omega); (· exact hu9.size); intro v4 w4 own4 grow4))
                  have hu4 := hu9.grown grow4 (fun k hk => by have hk2 : some B0 = some k := hk; injection hk2 with hk2; omega)
                  have R9 := Rd.grown grow4 (.inr (.inl (fun h => hne (by have h2 : some B9 = some B0 := h; injection h2)))) R9
                  clear grow4
                  refine only_normal (hR _ _ (Keep.step (fun _ => hgU.trans hu4)) ?_)
                  clear hR R
                  simp only [Act.put, List.setIfInBounds_toArray, List.set_cons_succ, List.set_cons_zero]
                  refine still_next (j := 10) (by kernel_rfl) (by rfl) (fun R hR => ?_)
                  (try simp only [List.getElem_toArray, List.getElem_cons_succ, List.getElem_cons_zero])
                  go_wp2_with (at_builtin; go_loud (refine wpList_append_rd rfl (.tmp 64) (.tmp 69) 22 rfl U.heap.size 66 ic (.agg #[.int .i64 0, .int .i64 0, .slice none 0 0]) 3 40 (by kernel_rfl) hic hic0 hic1 hic2 rfl (by decide) v4 (0 + k) _ rfl own4 (.slice (some ⟨B9, 0, none⟩) 1 1) 1 [.int .i64 x.f, .int .i64 x.t, xl] rfl R9 onex.out ?_ ?_ ?_ ?_; (· unfold maxLen; omega); (· omega); (· exact hu4.size); intro v10 w10 own10 grow10))
                  have hge4 := own_ge (own4)
                  have hu10 := hu4.grown grow10 (fun k hk => hge4 k hk)
                  clear grow10
                  refine only_normal (hR _ _ (Keep.step (fun _ => hgU.trans hu10)) ?_)
                  clear hR R
                  simp only [Act.put, List.setIfInBounds_toArray, List.set_cons_succ, List.set_cons_zero]
                  refine still_next (j := 14) (by kernel_rfl) (by rfl) (fun R hR => ?_)
                  (try simp only [List.getElem_toArray, List.getElem_cons_succ, List.getElem_cons_zero])
                  go_wp2_with (at_builtin; go_loud (refine wpList_append_rd rfl (.tmp 70) (.tmp 73) 22 rfl U.heap.size 66 ic (.agg #[.int .i64 0, .int .i64 0, .slice none 0 0]) 3 40 (by kernel_rfl) hic hic0 hic1 hic2 rfl (by decide) v10 (0 + k + 1) _ rfl own10 s13 (n - k) (flat (outs.drop k)) rfl (R13.gr hu10) one13.out ?_ ?_ ?_ ?_; (· unfold maxLen; omega); (· omega); (· exact hu10.size); intro v14 w14 own14 grow14))
                  have hge10 := own_ge own10
                  have hu14 := hu10.grown grow14 (fun k hk => hge10 k hk)
                  clear grow14
                  refine only_normal (hR _ _ (Keep.step (fun _ => hgU.trans hu14)) ?_)
                  clear hR R
                  simp only [Act.put, List.setIfInBounds_toArray, List.set_cons_succ, List.set_cons_zero]
                  have hgE := hgU.trans hu14
                  refine still_pure 15 (v := v14) rfl (by kernel_rfl) (by kernel_rfl) (by kernel_rfl) (fun _ => hgE) rfl (fun w hw => ?_) ?_
                  · simp [execOp, go_sem] <;> (intros; omega)
                  simp only [Act.put, List.setIfInBounds_toArray, List.set_cons_succ, List.set_cons_zero]
                  refine still_done (by kernel_rfl) ?_
                  (try simp only [List.getElem_toArray, List.getElem_cons_succ, List.getElem_cons_zero, List.setIfInBounds_toArray, List.set_cons_succ, List.set_cons_zero])
                  have own14 := own_low (base' := w.heap.size) (Nat.le_trans hwz hUz) own14
                  rw [show 0 + k + 1 + (n - k) = n + 1 by omega, List.nil_append, ← hfl.out] at own14
                  have own14 := Lib.hid own14
                  have hgF := Lib.hid (hgC.trans hgE)
                  clear own10 hu10 hu14 hgE hge4 hge10
                  go_wp2
                  go_roundw
                  case rel => exact ⟨n + 1, _, by go_num, by omega, hgF.out, own14.out, hst⟩
                  case measure => simp [RowKit.intOf]; omega
              · (try simp only [List.getElem_toArray, List.getElem_cons_succ, List.getElem_cons_zero])
                go_wp2_with fail
                have R9 := Rd.new U #[.int .i64 x.f, .int .i64 x.t, xl] 66 1 3 1 rfl
                have hu9 := huU.alloc (.cells #[.int .i64 x.f, .int .i64 x.t, xl] 66)
                obtain ⟨B9, hB9⟩ : ∃ B9, U.heap.size = B9 := ⟨_, rfl⟩
                have hB9u : U.heap.size ≤ B9 := by have := huU.size; omega
                have hB9lt : B9 < (U.alloc (.cells #[.int .i64 x.f, .int .i64 x.t, xl] 66)).heap.size := by simp; omega
                rw [hB9] at R9
                refine only_normal (hR _ _ (Keep.step (fun _ => hgU.trans hu9)) ?_)
                clear hR R
                simp only [Act.put, List.setIfInBounds_toArray, List.set_cons_succ, List.set_cons_zero]
                (try rw [hB9])
                clear hB9
                generalize U.alloc (.cells #[.int .i64 x.f, .int .i64 x.t, xl] 66) = W9 at *
                refine still_next (j := 0) (by kernel_rfl) (by rfl) (fun R hR => ?_)
                (try simp only [List.getElem_toArray, List.getElem_cons_succ, List.getElem_cons_zero])
                go_wp2_with fail
                have hE := own_empty W9 W9.heap.size 66 3 (Nat.le_refl _)
                have hu0 := hu9.alloc (.cells #[] 66)
                obtain ⟨B0, hB0⟩ : ∃ B0, W9.heap.size = B0 := ⟨_, rfl⟩
                have hB0u : U.heap.size ≤ B0 := by have := hu9.size; omega
                have hB0lt : B0 < (W9.alloc (.cells #[] 66)).heap.size := by simp; omega
                rw [hB0] at hE
                have hE := own_low hB0u hE
                have R9 := R9.gr ((Gr.refl W9).alloc (.cells #[] 66))
                have hne : B9 ≠ B0 := by omega
                refine only_normal (hR _ _ (Keep.step (fun _ => hgU.trans hu0)) ?_)
                clear hR R
                simp only [Act.put, List.setIfInBounds_toArray, List.set_cons_succ, List.set_cons_zero]
                (try rw [hB0])
                clear hB0
                generalize W9.alloc (.cells #[] 66) = W0 at *
                refine still_next (j := 4) (by kernel_rfl) (by rfl) (fun R hR => ?_)
                (try simp only [List.getElem_toArray, List.getElem_cons_succ, List.getElem_cons_zero])
                go_wp2_with (at_builtin; go_loud (refine wpList_append_rd rfl (.tmp 60) (.tmp 63) 22 rfl U.heap.size 66 ic (.agg #[.int .i64 0, .int .i64 0, .slice none 0 0]) 3 40 (by kernel_rfl) hic hic0 hic1 hic2 rfl (by decide) (.slice (some ⟨B0, 0, none⟩) 0 0) 0 _ rfl hE s3 k (flat (outs.take k)) rfl (R3.gr hu0) one3.out ?_ ?_ ?_ ?_; (· unfold maxLen; omega); (· omega); (· exact hu0.size); intro v4 w4 own4 grow4))
                have hu4 := hu0.grown grow4 (fun k hk => by have hk2 : some B0 = some k := hk; injection hk2 with hk2; omega)
                have R9 := Rd.grown grow4 (.inr (.inl (fun h => hne (by have h2 : some B9 = some B0 := h; injection h2)))) R9
                clear grow4
                refine only_normal (hR _ _ (Keep.step (fun _ => hgU.trans hu4)) ?_)
                clear hR R
                simp only [Act.put, List.setIfInBounds_toArray, List.set_cons_succ, List.set_cons_zero]
                refine still_next (j := 10) (by kernel_rfl) (by rfl) (fun R hR => ?_)
                (try simp only [List.getElem_toArray, List.getElem_cons_succ, List.getElem_cons_zero])
                go_wp2_with (at_builtin; go_loud (refine wpList_append_rd rfl (.tmp 64) (.tmp 69) 22 rfl U.heap.size 66 ic (.agg #[.int .i64 0, .int .i64 0, .slice none 0 0]) 3 40 (by kernel_rfl) hic hic0 hic1 hic2 rfl (by decide) v4 (0 + k) _ rfl own4 (.slice (some ⟨B9, 0, none⟩) 1 1) 1 [.int .i64 x.f, .int .i64 x.t, xl] rfl R9 onex.out ?_ ?_ ?_ ?_; (· unfold maxLen; omega); (· omega); (· exact hu4.size); intro v10 w10 own10 grow10))
                have hge4 := own_ge (own4)
                have hu10 := hu4.grown grow10 (fun k hk => hge4 k hk)
                clear grow10
                refine only_normal (hR _ _ (Keep.step (fun _ => hgU.trans hu10)) ?_)
                clear hR R
                simp only [Act.put, List.setIfInBounds_toArray, List.set_cons_succ, List.set_cons_zero]
                refine still_next (j := 14) (by kernel_rfl) (by rfl) (fun R hR => ?_)
                (try simp only [List.getElem_toArray, List.getElem_cons_succ, List.getElem_cons_zero])
                go_wp2_with (at_builtin; go_loud (refine wpList_append_rd rfl (.tmp 70) (.tmp 73) 22 rfl U.heap.size 66 ic (.agg #[.int .i64 0, .int .i64 0, .slice none 0 0]) 3 40 (by kernel_rfl) hic hic0 hic1 hic2 rfl (by decide) v10 (0 + k + 1) _ rfl own10 s13 (n - k) (flat (outs.drop k)) rfl (R13.gr hu10) one13.out ?_ ?_ ?_ ?_; (· unfold maxLen; omega); (· omega); (· exact hu10.size); intro v14 w14 own14 grow14))
                have hge10 := own_ge own10
                have hu14 := hu10.grown grow14 (fun k hk => hge10 k hk)
                clear grow14
                refine only_normal (hR _ _ (Keep.step (fun _ => hgU.trans hu14)) ?_)
                clear hR R
                simp only [Act.put, List.setIfInBounds_toArray, List.set_cons_succ, List.set_cons_zero]
                have hgE := hgU.trans hu14
                refine still_pure 15 (v := v14) rfl (by kernel_rfl) (by kernel_rfl) (by kernel_rfl) (fun _ => hgE) rfl (fun w hw => ?_) ?_
                · simp [execOp, go_sem] <;> (intros; omega)
                simp only [Act.put, List.setIfInBounds_toArray, List.set_cons_succ, List.set_cons_zero]
                refine still_done (by kernel_rfl) ?_
                (try simp only [List.getElem_toArray, List.getElem_cons_succ, List.getElem_cons_zero, List.setIfInBounds_toArray, List.set_cons_succ, List.set_cons_zero])
                have own14 := own_low (base' := w.heap.size) (Nat.le_trans hwz hUz) own14
                rw [show 0 + k + 1 + (n - k) = n + 1 by omega, List.nil_append, ← hfl.out] at own14
                have own14 := Lib.hid own14
                have hgF := Lib.hid (hgC.trans hgE)
                clear own10 hu10 hu14 hgE hge4 hge10
                go_wp2
                go_roundw
                case rel => exact ⟨n + 1, _, by go_num, by omega, hgF.out, own14.out, hst⟩
                case measure => simp [RowKit.intOf]; omega
    · have q1 : decide ((n : Int) < (cs.length : Int)) = false := decide_eq_false (by omega)
      have q1' : decide (n < cs.length) = false := decide_eq_false c1
      obtain rfl : n = cs.length := by omega
      go_wp2
      go_ret
      have h1 := hI.out
      rw [List.take_length] at h1
      exact ⟨_, ts, rfl, hg, h1, Rd.own hO.out⟩
end Go.Proofs.YtckmebfgianeoaaDoor

/-
  Contract of Repair of the reference.
  Conditions: the list lies in memory.
-/
namespace Go.Proofs.YtckmebfgianeoaaDoor
open Go.RowKit Go.Lib
set_option linter.unusedSimpArgs false
set_option linter.unusedVariables false

set_option maxRecDepth 20000 in
set_option maxHeartbeats 4000000 in
theorem rrepair_no (v : Value) (cs : List Cu) (r : Ru) (e : Int) (w : World) (hC : Cues w v cs) (h : ¬ repOk cs r e) :
    Calls Tryd.prog 34 #[v, r.val, .int .i64 e] w fun e w' => e = .returned (.tuple #[.slice none 0 0, .int .i64 1]) ∧ Gr w w' := by
  obtain ⟨p, cap, rfl, hsh⟩ := hC.at_.shape
  clear hsh
  have hL : Hid (∃ bv sv : Bool, (∀ w', Gr w w' → Calls Tryd.prog 39 #[.slice p cs.length cap] w' fun e w'' => e = .returned (.bool bv) ∧ Gr w' w'') ∧ (∀ w', Calls Tryd.prog 67 #[r.val] w' fun e w'' => e = .returned (.bool sv) ∧ Gr w' w'') ∧ (bv = false ∨ (bv = true ∧ sv = false) ∨ (bv = true ∧ sv = true ∧ e < 0) ∨ (bv = true ∧ sv = true ∧ 0 ≤ e ∧ 2147483647 < e))) := by
    refine ⟨vCues cs, ruB r, fun w' hg => crvalid_any _ _ w' (hC.gr hg), fun w' => rrules_any r w', ?_⟩
    unfold repOk at h
    cases hv : vCues cs with
    | false => exact .inl rfl
    | true =>
      cases hs : ruB r with
      | false => exact .inr (.inl ⟨rfl, rfl⟩)
      | true =>
        rw [hv, hs] at h
        rcases Int.lt_or_le e 0 with h1 | h1
        · exact .inr (.inr (.inl ⟨rfl, rfl, h1⟩))
        · rcases Int.lt_or_le 2147483647 e with h2 | h2
          · exact .inr (.inr (.inr ⟨rfl, rfl, h1, h2⟩))
          · exact absurd ⟨rfl, rfl, h1, h2⟩ h
  clear hC h
  obtain ⟨bv, sv, HV, HS, h⟩ := hL.out
  have HV := Lib.hid HV
  have HS := Lib.hid HS
  clear hL
  obtain ⟨rs, rl, rg, rw_⟩ := r
  unfold Ru.val at HS ⊢
  simp only at HS ⊢
  have hnew := Cel.new w #[.int .i64 rs, .int .i64 rl, .int .i64 rg, .int .i64 rw_] 57
  rcases h with rfl | ⟨rfl, rfl⟩ | ⟨rfl, rfl, h⟩ | ⟨rfl, rfl, h1, h⟩
  · have q1 := 1
    go_enter Tryd.func34, Tryd.ntmps34
    go_wp2_with (first
      | (go_at_call 39; (with_reducible refine (HV.out _ ?_).mono ?_); (· exact (by repeat (first | with_reducible exact Gr.refl _ | with_reducible assumption | refine Gr.setCell ?_ (by first | omega | (simp; done) | (simp; omega)) _ | refine Gr.alloc ?_ _ | refine Gr.drew ?_ | refine Gr.drewN ?_ _ | refine Gr.trans ?_ (by with_reducible assumption)))); rintro e w1 ⟨rfl, hg1⟩; obtain ⟨a0, a1, a2, a3⟩ := (hnew.gr hg1).four; have x0 := (hnew.gr hg1).lt)
      | (go_at_call 67; (with_reducible refine (HS.out _).mono ?_); rintro e w2 ⟨rfl, hg2⟩))
    simp [bodyPost, results, Tryd.results34, go_sem]
    exact (by repeat (first | with_reducible exact Gr.refl _ | with_reducible assumption | refine Gr.setCell ?_ (by first | omega | (simp; done) | (simp; omega)) _ | refine Gr.alloc ?_ _ | refine Gr.drew ?_ | refine Gr.drewN ?_ _ | refine Gr.trans ?_ (by with_reducible assumption)))
  · have q1 := 1
    go_enter Tryd.func34, Tryd.ntmps34
    go_wp2_with (first
      | (go_at_call 39; (with_reducible refine (HV.out _ ?_).mono ?_); (· exact (by repeat (first | with_reducible exact Gr.refl _ | with_reducible assumption | refine Gr.setCell ?_ (by first | omega | (simp; done) | (simp; omega)) _ | refine Gr.alloc ?_ _ | refine Gr.drew ?_ | refine Gr.drewN ?_ _ | refine Gr.trans ?_ (by with_reducible assumption)))); rintro e w1 ⟨rfl, hg1⟩; obtain ⟨a0, a1, a2, a3⟩ := (hnew.gr hg1).four; have x0 := (hnew.gr hg1).lt)
      | (go_at_call 67; (with_reducible refine (HS.out _).mono ?_); rintro e w2 ⟨rfl, hg2⟩))
    simp [bodyPost, results, Tryd.results34, go_sem]
    exact (by repeat (first | with_reducible exact Gr.refl _ | with_reducible assumption | refine Gr.setCell ?_ (by first | omega | (simp; done) | (simp; omega)) _ | refine Gr.alloc ?_ _ | refine Gr.drew ?_ | refine Gr.drewN ?_ _ | refine Gr.trans ?_ (by with_reducible assumption)))
  · have q1 : decide (e < 0) = true := decide_eq_true h
    go_enter Tryd.func34, Tryd.ntmps34
    go_wp2_with (first
      | (go_at_call 39; (with_reducible refine (HV.out _ ?_).mono ?_); (· exact (by repeat (first | with_reducible exact Gr.refl _ | with_reducible assumption | refine Gr.setCell ?_ (by first | omega | (simp; done) | (simp; omega)) _ | refine Gr.alloc ?_ _ | refine Gr.drew ?_ | refine Gr.drewN ?_ _ | refine Gr.trans ?_ (by with_reducible assumption)))); rintro e w1 ⟨rfl, hg1⟩; obtain ⟨a0, a1, a2, a3⟩ := (hnew.gr hg1).four; have x0 := (hnew.gr hg1).lt)
      | (go_at_call 67; (with_reducible refine (HS.out _).mono ?_); rintro e w2 ⟨rfl, hg2⟩))
    simp [bodyPost, results, Tryd.results34, go_sem]
    exact (by repeat (first | with_reducible exact Gr.refl _ | with_reducible assumption | refine Gr.setCell ?_ (by first | omega | (simp; done) | (simp; omega)) _ | refine Gr.alloc ?_ _ | refine Gr.drew ?_ | refine Gr.drewN ?_ _ | refine Gr.trans ?_ (by with_reducible assumption)))
  · have q1 : decide (e < 0) = false := decide_eq_false (by omega); have q2 : decide (2147483647 < e) = true := decide_eq_true h; have q3 : decide (e > 2147483647) = true := decide_eq_true h
    go_enter Tryd.func34, Tryd.ntmps34
    go_wp2_with (first
      | (go_at_call 39; (with_reducible refine (HV.out _ ?_).mono ?_); (· exact (by repeat (first | with_reducible exact Gr.refl _ | with_reducible assumption | refine Gr.setCell ?_ (by first | omega | (simp; done) | (simp; omega)) _ | refine Gr.alloc ?_ _ | refine Gr.drew ?_ | refine Gr.drewN ?_ _ | refine Gr.trans ?_ (by with_reducible assumption)))); rintro e w1 ⟨rfl, hg1⟩; obtain ⟨a0, a1, a2, a3⟩ := (hnew.gr hg1).four; have x0 := (hnew.gr hg1).lt)
      | (go_at_call 67; (with_reducible refine (HS.out _).mono ?_); rintro e w2 ⟨rfl, hg2⟩))
    simp [bodyPost, results, Tryd.results34, go_sem]
    exact (by repeat (first | with_reducible exact Gr.refl _ | with_reducible assumption | refine Gr.setCell ?_ (by first | omega | (simp; done) | (simp; omega)) _ | refine Gr.alloc ?_ _ | refine Gr.drew ?_ | refine Gr.drewN ?_ _ | refine Gr.trans ?_ (by with_reducible assumption)))
end Go.Proofs.YtckmebfgianeoaaDoor

/-
  Contract of Repair of the reference where the captions and the rules are valid.
  Conditions: the list lies in memory.
-/
namespace Go.Proofs.YtckmebfgianeoaaDoor
open Go.RowKit Go.Lib
set_option linter.unusedSimpArgs false
set_option linter.unusedVariables false

set_option maxRecDepth 20000 in
set_option maxHeartbeats 4000000 in
theorem rrepair_yes (v : Value) (cs : List Cu) (r : Ru) (e : Int) (w : World) (hC : Cues w v cs) (hok : repOk cs r e) :
    Calls Tryd.prog 34 #[v, r.val, .int .i64 e] w fun en w' => ∃ v' cs' ts, en = .returned (.tuple #[v', .int .i64 0]) ∧ Gr w w' ∧ Cues w' v' cs' ∧ IsSt cs ts ∧ cs'.map cAbs = repGo r e 0 ((ts.map Prod.fst).map cAbs) := by
  obtain ⟨hv, hr, he0, he1⟩ := hok
  have hn := hC.n
  have HV : Hid (∀ w', Gr w w' → Calls Tryd.prog 39 #[v] w' fun e w'' => e = .returned (.bool true) ∧ Gr w' w'') := fun w' hg => by rw [← hv]; exact crvalid_any _ _ w' (hC.gr hg)
  have HS : Hid (∀ w', Calls Tryd.prog 67 #[r.val] w' fun e w'' => e = .returned (.bool true) ∧ Gr w' w'') := fun w' => by rw [← hr]; exact rrules_any r w'
  have HSo : Hid (∀ w', Gr w w' → Calls Tryd.prog 68 #[v] w' fun e w'' => ∃ v' ts, e = .returned v' ∧ Gr w' w'' ∧ IsSt cs ts ∧ Rd w'' v' cs.length 3 (flat (ts.map Prod.fst))) := fun w' hg => rsorted_any v cs w' (hC.gr hg)
  obtain ⟨p, cap, rfl, hsh⟩ := hC.at_.shape
  clear hsh
  have hrb := hr
  unfold ruB at hrb
  rw [decide_eq_true_eq] at hrb
  obtain ⟨rs, rl, rg, rk⟩ := r
  simp only at hrb
  obtain ⟨R, hR⟩ : ∃ R : Ru, R = ⟨rs, rl, rg, rk⟩ := ⟨_, rfl⟩
  rw [← hR] at hr ⊢
  have hv4 : R.val = .agg #[.int .i64 rs, .int .i64 rl, .int .i64 rg, .int .i64 rk] := by rw [hR]; rfl
  rw [hv4]
  rw [← hR, hv4] at HS
  have hR := Lib.hid hR
  have hC := Lib.hid hC
  have hv := Lib.hid hv
  have hr := Lib.hid hr
  have q1 : decide (e < 0) = false := decide_eq_false (by omega)
  have q2 : decide (2147483647 < e) = false := decide_eq_false (by omega)
  have q3 : decide (e > 2147483647) = false := decide_eq_false (by omega)
  obtain ⟨ic, hic, hic0, hic1, hic2⟩ := info_parts infoCue
  obtain ⟨is, his, hs0, hs1, hs2⟩ := info_parts infoStr
  have hnew := Cel.new w #[.int .i64 rs, .int .i64 rl, .int .i64 rg, .int .i64 rk] 57
  have HWr : Hid (∀ (t : ByteArray) w', t.size ≤ 64 → Calls Tryd.prog 20 #[.string t, .int .i64 rk] w' fun e w'' => ∃ v, e = .returned v ∧ Gr w' w'' ∧ StrsR w'' v (wrapP rk t)) := fun t w' h1 => rwrap_any t rk w' (by omega) (by omega)
  go_enter Tryd.func34, Tryd.ntmps34
  go_wp2_with (first
    | (go_at_call 39; (with_reducible refine (HV.out _ ?_).mono ?_); (· exact (by repeat (first | with_reducible exact Gr.refl _ | with_reducible assumption | refine Gr.setCell ?_ (by first | omega | (simp; done) | (simp; omega)) _ | refine Gr.alloc ?_ _ | refine Gr.drew ?_ | refine Gr.drewN ?_ _ | refine Gr.trans ?_ (by with_reducible assumption)))); rintro e w1 ⟨rfl, hg1⟩; have k1 := hnew.gr hg1; have x0 := k1.lt; obtain ⟨a0, a1, a2, a3⟩ := k1.four)
    | (go_at_call 67; (with_reducible refine (HS.out _).mono ?_); rintro e w2 ⟨rfl, hg2⟩; have hw2 : Gr w w2 := (((Gr.refl w).alloc _).trans hg1).trans hg2; have k2 := k1.gr hg2)
    | (go_at_call 68; (with_reducible refine (HSo.out _ hw2).mono ?_); rintro e w4 ⟨sv, ts, rfl, hg4, hIs, hRd4⟩; obtain ⟨_, sa, sc, rfl, _⟩ := id hRd4; have hRd4 := Lib.hid hRd4))
  have hw4 : Gr w w4 := hw2.trans hg4
  have k4 := k2.gr hg4
  have hmem := hIs.mem
  have hlen : (ts.map Prod.fst).length = cs.length := by rw [List.length_map, hIs.len]
  obtain ⟨ss, hss⟩ : ∃ ss, ts.map Prod.fst = ss := ⟨_, rfl⟩
  rw [hss] at hmem hlen hRd4
  obtain ⟨RES, hRES⟩ : ∃ RES, repGo R e 0 (ss.map cAbs) = RES := ⟨_, rfl⟩
  have hfin : Hid (IsSt cs ts ∧ repGo R e 0 ((ts.map Prod.fst).map cAbs) = RES) := ⟨hIs, by rw [hss]; exact hRES⟩
  have hmem := Lib.hid hmem
  have HS0 : Hid (([] : List Cu).map cAbs ++ repGo R e 0 ((ss.drop 0).map cAbs) = RES ∧ (∀ c ∈ ([] : List Cu), CuOk c) ∧ ([] : List Cu).length ≤ 0) := ⟨hRES, fun c hc => (by cases hc), Nat.le_refl _⟩
  have hz4 := k4.lt
  have k4 := Lib.hid k4
  clear hIs hss hRES HV HS HSo k1 k2 hg1 hg2 hg4 hw2 a0 a1 a2 a3 x0 hnew
  go_loopw [8, 9, 11] (fun o fr i wr => ∃ (kk : Nat) (fv : Int) (cs' : List Cu), i = .int .i64 kk ∧ fr = .int .i64 fv ∧ kk ≤ cs.length ∧ 0 ≤ fv ∧ fv ≤ 4294967294 ∧ Gr w4 wr ∧ CuesO w4.heap.size 66 wr o cs' ∧ Hid (cs'.map cAbs ++ repGo R e fv ((ss.drop kk).map cAbs) = RES ∧ (∀ c ∈ cs', CuOk c) ∧ cs'.length ≤ kk)) (fun _ _ i _ => cs.length - (RowKit.intOf i).toNat)
  case atStart => exact ⟨0, 0, [], rfl, rfl, Nat.zero_le _, by omega, by omega, Gr.refl _, CuesO.nil _ _ _, HS0⟩
  case round =>
    obtain ⟨kk, fv, cs', rfl, rfl, h3, hf0, hf1, hgw, hO, hno⟩ := hrel
    clear HS0
    have hsz := hgw.size
    by_cases c1 : kk < cs.length
    · have q6 : decide (kk < cs.length) = true := decide_eq_true c1
      have cl : kk < ss.length := by omega
      obtain ⟨b1, o1, cp1, hsv, hb1, hcl⟩ := hRd4.out.addr (by omega)
      injection hsv with hs1' hs2' hs3'
      subst hs1' hs3'
      have hfl := flat_at ss kk cl
      have e0 := (hgw.cells.1 b1 _ hb1).trans (hcl _ _ hfl.1)
      have e1 := (hgw.cells.1 b1 _ hb1).trans (hcl _ _ hfl.2.1)
      have e2 := (hgw.cells.1 b1 _ hb1).trans (hcl _ _ hfl.2.2)
      rw [← Nat.add_assoc] at e1 e2
      have hx1 : b1 < wr.heap.size := Nat.lt_of_lt_of_le hb1 hgw.size
      have hcm := hmem.out _ (List.getElem_mem cl)
      have hsa := (hC.out.at_.2 _ hcm).gr (hw4.trans hgw)
      have hvc := vCu_bounds (vCues_mem hv.out hcm)
      have hst := hno.out
      rw [List.drop_eq_getElem_cons cl, List.map_cons] at hst
      generalize ss[kk] = c at e0 e1 e2 hsa hvc hst hfl hcm
      clear hcl hfl hcm
      have hO := Lib.hid hO
      obtain ⟨p2, cap2, hl2, hh2⟩ := hsa.shape
      rw [hl2] at e2 hsa
      have hr0 := k4.out.gr hgw
      obtain ⟨r0, r1, r2, r3⟩ := hr0.four
      have hx2 := hr0.lt
      clear hr0
      obtain ⟨ma, hma⟩ : ∃ ma, max c.f fv = ma := ⟨_, rfl⟩
      obtain ⟨m1, hm1⟩ : ∃ m1, max c.t (ma + rs) = m1 := ⟨_, rfl⟩
      obtain ⟨m2, hm2⟩ : ∃ m2, (if ma + rl < m1 then ma + rl else m1) = m2 := ⟨_, rfl⟩
      obtain ⟨mb, hmb⟩ : ∃ mb, (if e < m2 then e else m2) = mb := ⟨_, rfl⟩
      have dma : repA fv (cAbs c) = ma := hma
      have dmb : repB R e fv (cAbs c) = mb := by
        unfold repB
        rw [dma, hR.out]
        simp only
        have : (cAbs c).2.1 = c.t := rfl
        rw [this, hm1, ← hmb, ← hm2]
        split <;> split <;> omega
      have bma : 0 ≤ ma ∧ ma ≤ 4294967294 := by rw [← hma]; omega
      have bm1 : 0 ≤ m1 ∧ m1 ≤ 8589934592 := by rw [← hm1]; omega
      have bm2 : 0 ≤ m2 ∧ m2 ≤ 8589934592 := by rw [← hm2]; split <;> omega
      have bmb : 0 ≤ mb ∧ mb ≤ 2147483647 := by rw [← hmb]; split <;> omega
      have hV0 : ∀ h : repOne R e fv (cAbs c) = none, Hid (cs'.map cAbs ++ repGo R e fv ((ss.drop (kk + 1)).map cAbs) = RES ∧ (∀ c ∈ cs', CuOk c) ∧ cs'.length ≤ kk + 1) := fun h => by
        rw [repGo_none h] at hst
        exact ⟨hst.1, hst.2.1, by omega⟩
      have hV0 := Lib.hid hV0
      by_cases d1 : c.t ≤ ma
      · have g1 : decide (c.t ≤ ma) = true := decide_eq_true d1
        have g1' : decide (ma ≥ c.t) = true := decide_eq_true d1
        have hV := hV0.out (by unfold repOne; rw [dma, if_pos (by exact d1)])
        clear hst hno hV0 hh2
        go_wp2
        go_roundw
        case rel => exact ⟨kk + 1, fv, cs', by go_num, rfl, by omega, hf0, hf1, hgw, hO.out, hV⟩
        case measure => simp [RowKit.intOf]; omega
      · have g1 : decide (c.t ≤ ma) = false := decide_eq_false d1
        have g1' : decide (ma ≥ c.t) = false := decide_eq_false d1
        have dm := Lib.hid (And.intro dma dmb)
        clear dma dmb
        go_upto_region 11 with fail
        refine wp_region_gr (by kernel_rfl) (by kernel_rfl) (fun hq1 hq2 => ?_)
        repeat (first | go_big_quiet_skip | (go_big_quiet_want; go_big_quiet_op; first | go_big_quiet_on | (apply Exists.intro; refine ⟨fun _ => ?_, ?_⟩; (· (fail)); go_big_quiet_on)))
        refine wpQuiet_nil ?_
        clear hq1 hq2
        rintro w6 ⟨⟨_, hg6⟩, rfl⟩
        obtain ⟨hc6, hf6⟩ := hg6.cells
        have hz6 := hg6.size
        (try simp at hz6); (try have hl6_0_0 : w.heap.size < w6.heap.size := by omega); (try have hm6_0_0 : w.heap.size ≤ w6.heap.size := by omega); (try have hl6_0_1 : w.heap.size + 1 < w6.heap.size := by omega); (try have hl6_0_2 : w.heap.size + 2 < w6.heap.size := by omega); (try have hl6_1_0 : w1.heap.size < w6.heap.size := by omega); (try have hm6_1_0 : w1.heap.size ≤ w6.heap.size := by omega); (try have hl6_1_1 : w1.heap.size + 1 < w6.heap.size := by omega); (try have hl6_1_2 : w1.heap.size + 2 < w6.heap.size := by omega); (try have hl6_2_0 : w2.heap.size < w6.heap.size := by omega); (try have hm6_2_0 : w2.heap.size ≤ w6.heap.size := by omega); (try have hl6_2_1 : w2.heap.size + 1 < w6.heap.size := by omega); (try have hl6_2_2 : w2.heap.size + 2 < w6.heap.size := by omega); (try have hl6_3_0 : w3.heap.size < w6.heap.size := by omega); (try have hm6_3_0 : w3.heap.size ≤ w6.heap.size := by omega); (try have hl6_3_1 : w3.heap.size + 1 < w6.heap.size := by omega); (try have hl6_3_2 : w3.heap.size + 2 < w6.heap.size := by omega); (try have hl6_4_0 : w4.heap.size < w6.heap.size := by omega); (try have hm6_4_0 : w4.heap.size ≤ w6.heap.size := by omega); (try have hl6_4_1 : w4.heap.size + 1 < w6.heap.size := by omega); (try have hl6_4_2 : w4.heap.size + 2 < w6.heap.size := by omega); (try have hl6_5_0 : w5.heap.size < w6.heap.size := by omega); (try have hm6_5_0 : w5.heap.size ≤ w6.heap.size := by omega); (try have hl6_5_1 : w5.heap.size + 1 < w6.heap.size := by omega); (try have hl6_5_2 : w5.heap.size + 2 < w6.heap.size := by omega)
        have hgx := hgw.trans hg6
        have e2 := (hc6 b1 _ hx1).trans e2
        obtain ⟨r0, r1, r2, r3⟩ := (k4.out.gr hgx).four
        have hx1 : b1 < w6.heap.size := Nat.lt_of_lt_of_le hx1 hg6.size
        have hx2 : w.heap.size < w6.heap.size := (k4.out.gr hgx).lt
        have hO := Lib.hid (hO.out.gr hg6)
        have hsa := hsa.gr hg6
        by_cases d2 : mb - ma < rs
        · have g2 : decide (mb - ma < rs) = true := decide_eq_true d2
          have hV := hV0.out (by unfold repOne; rw [dm.out.1, dm.out.2, if_neg (by exact d1), if_pos (by rw [hR.out]; exact d2)])
          clear hst hno hV0 hh2 hc6 hf6
          go_wp2
          go_roundw
          case rel => exact ⟨kk + 1, fv, cs', by go_num, rfl, by omega, hf0, hf1, hgx, hO.out, hV⟩
          case measure => simp [RowKit.intOf]; omega
        · have g2 : decide (mb - ma < rs) = false := decide_eq_false d2
          clear hf6
          have hss : Hid (∀ (t : Nat) (ht : t < c.ss.length), ∃ b2 o2, p2 = some ⟨b2, o2, none⟩ ∧ b2 < w6.heap.size ∧ w6.cell? ⟨b2, o2 + t, none⟩ = some (.string c.ss[t])) := Lib.hid (fun t ht => by
            rcases hh2 with h | ⟨b2, o2, ha2, hb2, hc2⟩
            · omega
            · exact ⟨b2, o2, ha2, Nat.lt_of_lt_of_le hb2 hg6.size, (hc6 b2 _ hb2).trans (hc2 t ht)⟩)
          have hst := Lib.hid hst
          have hln := hst.out.2.2
          have hvs : Hid (∀ x ∈ c.ss, x.size ≤ 64) := Lib.hid (fun x hx => (vLine_out (List.all_eq_true.1 hvc.2.2.2.2.2 x hx)).2.1)
          have hvl : Hid (∀ x ∈ linesW rk c.ss, x.size ≤ 140737488355328) := Lib.hid (fun x hx => by
            have hlv := linesW_valid hrb.2.2.2.2.2.1 hrb.2.2.2.2.2.2 (ss := c.ss) (fun x hx => List.all_eq_true.1 hvc.2.2.2.2.2 x hx)
            have := (vLine_out (hlv.2 x hx).1).2.1
            omega)
          have hs4 : c.ss.length ≤ 4 := hvc.2.2.2.2.1
          have hgeO := Lib.hid (own_ge hO.out.own)
          clear hh2 hc6 hvc hno hsa
          go_wp2
          go_loopw [14, 15] (fun lv ti wx => ∃ (t : Nat) (ls : List ByteArray), ti = .int .i64 t ∧ t ≤ c.ss.length ∧ Gr w6 wx ∧ StrsO w6.heap.size 9 wx lv ls ∧ ls.length ≤ t * 129 ∧ Hid (ls = (c.ss.take t).flatMap (wrapP rk))) (fun _ ti _ => c.ss.length - (RowKit.intOf ti).toNat)
          case atStart => exact ⟨0, [], rfl, Nat.zero_le _, Gr.refl _, StrsO.nil _ _ _, by simp, Lib.hid rfl⟩
          case round =>
            obtain ⟨t, ls, rfl, ht, hgx2, hL, hlt, hLe⟩ := hrel
            obtain ⟨po, co, rfl⟩ := own_shape hL
            have hL := Lib.hid hL
            have f2 := (hgx2.cells.1 b1 _ hx1).trans e2
            have hy1 : b1 < wr.heap.size := Nat.lt_of_lt_of_le hx1 hgx2.size
            by_cases ct : t < c.ss.length
            · have qt : decide (t < c.ss.length) = true := decide_eq_true ct
              have qt' : decide ((t : Int) < (c.ss.length : Int)) = true := decide_eq_true (by omega)
              obtain ⟨b2, o2, hp2, hb2, hc2⟩ := hss.out t ct
              obtain ⟨tx, htx⟩ : ∃ tx, c.ss[t] = tx := ⟨_, rfl⟩
              rw [htx] at hc2
              have htz : tx.size ≤ 64 := by rw [← htx]; exact hvs.out _ (List.getElem_mem ct)
              have htk : Hid (c.ss.take (t + 1) = c.ss.take t ++ [tx]) := Lib.hid (by rw [← htx]; exact List.take_append_getElem ct |>.symm)
              have f3 := (hgx2.cells.1 b2 _ hb2).trans hc2
              have f4 := ((k4.out.gr hgx).gr hgx2).four.2.2.2
              have hy0 : w.heap.size < wr.heap.size := ((k4.out.gr hgx).gr hgx2).lt
              have hy2 : b2 < wr.heap.size := Nat.lt_of_lt_of_le hb2 hgx2.size
              have HWt : Hid (∀ w', Calls Tryd.prog 20 #[.string tx, .int .i64 rk] w' fun e w'' => ∃ v, e = .returned v ∧ Gr w' w'' ∧ StrsR w'' v (wrapP rk tx)) := fun w' => HWr.out tx w' htz
              have hLn := wrapP_len2 rk tx
              have hV2 : Hid (ls ++ wrapP rk tx = (c.ss.take (t + 1)).flatMap (wrapP rk)) := by
                refine Lib.hid ?_
                rw [htk.out, List.flatMap_append, ← hLe.out]; simp
              generalize wrapP rk tx = LW at hLn HWt hV2
              clear htx
              have hge2 := own_ge hL.out
              subst hp2
              go_wp2
              have hgD : Gr wr wr.drew := (Gr.refl wr).drew
              have hgK : Gr w6 wr.drew := hgx2.trans hgD
              refine wp_region_still (Keep 11 (fun y => Gr w6 y)) 14 rfl (by kernel_rfl) ?_
              show stillAny _ _ _ _ _ _ #[false, false, false, false, false, false, false, false, false, false, false, false, false, false] _ _
              generalize hU : wr.drew = U at *
              refine still_pure 0 (v := .slice po ls.length co) rfl (by kernel_rfl) (by kernel_rfl) (by kernel_rfl) (fun _ => hgK) rfl (fun w hw => ?_) ?_
              · simp [execOp, go_sem] <;> (intros; omega)
              simp only [Act.put, List.setIfInBounds_toArray, List.set_cons_succ, List.set_cons_zero]
              refine still_pure 1 (v := .slice (some ⟨b1, o1, none⟩) cs.length sc) rfl (by kernel_rfl) (by kernel_rfl) (by kernel_rfl) (fun _ => hgK) rfl (fun w hw => ?_) ?_
              · simp [execOp, go_sem] <;> (intros; omega)
              simp only [Act.put, List.setIfInBounds_toArray, List.set_cons_succ, List.set_cons_zero]
              refine still_pure 2 (v := .int .i64 kk) rfl (by kernel_rfl) (by kernel_rfl) (by kernel_rfl) (fun _ => hgK) rfl (fun w hw => ?_) ?_
              · simp [execOp, go_sem] <;> (intros; omega)
              simp only [Act.put, List.setIfInBounds_toArray, List.set_cons_succ, List.set_cons_zero]
              refine still_pure 3 (v := .pointer (some ⟨b1, o1 + kk * 3, none⟩)) rfl (by kernel_rfl) (by kernel_rfl) (by kernel_rfl) (fun _ => hgK) rfl (fun w hw => ?_) ?_
              · simp [execOp, go_sem, c1]
              simp only [Act.put, List.setIfInBounds_toArray, List.set_cons_succ, List.set_cons_zero]
              refine still_pure 4 (v := .pointer (some ⟨b1, o1 + kk * 3 + 2, none⟩)) rfl (by kernel_rfl) (by kernel_rfl) (by kernel_rfl) (fun _ => hgK) rfl (fun w hw => ?_) ?_
              · simp [execOp, go_sem] <;> (intros; omega)
              simp only [Act.put, List.setIfInBounds_toArray, List.set_cons_succ, List.set_cons_zero]
              refine still_pure 5 (v := .slice (some ⟨b2, o2, none⟩) c.ss.length cap2) rfl (by kernel_rfl) (by kernel_rfl) (by kernel_rfl) (fun _ => hgK) rfl (fun w hw => ?_) ?_
              · have hq0 := ((hw (by decide)).cells.1 b1 _ hx1).trans e2
                simp [execOp, go_sem, hq0]
              simp only [Act.put, List.setIfInBounds_toArray, List.set_cons_succ, List.set_cons_zero]
              refine still_pure 6 (v := .int .i64 t) rfl (by kernel_rfl) (by kernel_rfl) (by kernel_rfl) (fun _ => hgK) rfl (fun w hw => ?_) ?_
              · simp [execOp, go_sem] <;> (intros; omega)
              simp only [Act.put, List.setIfInBounds_toArray, List.set_cons_succ, List.set_cons_zero]
              refine still_pure 7 (v := .pointer (some ⟨b2, o2 + t, none⟩)) rfl (by kernel_rfl) (by kernel_rfl) (by kernel_rfl) (fun _ => hgK) rfl (fun w hw => ?_) ?_
              · simp [execOp, go_sem, ct]
              simp only [Act.put, List.setIfInBounds_toArray, List.set_cons_succ, List.set_cons_zero]
              refine still_pure 8 (v := .string tx) rfl (by kernel_rfl) (by kernel_rfl) (by kernel_rfl) (fun _ => hgK) rfl (fun w hw => ?_) ?_
              · have hq0 := ((hw (by decide)).cells.1 b2 _ hb2).trans hc2
                simp [execOp, go_sem, hq0]
              simp only [Act.put, List.setIfInBounds_toArray, List.set_cons_succ, List.set_cons_zero]
              refine still_pure 9 (v := .pointer (some ⟨w.heap.size, 3, none⟩)) rfl (by kernel_rfl) (by kernel_rfl) (by kernel_rfl) (fun _ => hgK) rfl (fun w hw => ?_) ?_
              · simp [execOp, go_sem] <;> (intros; omega)
              simp only [Act.put, List.setIfInBounds_toArray, List.set_cons_succ, List.set_cons_zero]
              refine still_pure 10 (v := .int .i64 rk) rfl (by kernel_rfl) (by kernel_rfl) (by kernel_rfl) (fun _ => hgK) rfl (fun wq hw => ?_) ?_
              · have hq0 := ((hw (by decide)).cells.1 w.heap.size _ hx2).trans r3
                simp [execOp, go_sem, hq0]
              simp only [Act.put, List.setIfInBounds_toArray, List.set_cons_succ, List.set_cons_zero]
              refine still_next (j := 11) (by kernel_rfl) (by rfl) (fun R hR => ?_)
              (try simp only [List.getElem_toArray, List.getElem_cons_succ, List.getElem_cons_zero])
              go_wp2_with (go_at_call 20; (with_reducible refine (HWt.out _).mono ?_); rintro en w1 ⟨v1, rfl, hg1, hS1⟩; obtain ⟨p1, k1, rfl, hh1⟩ := hS1.shape; clear hh1; have hS1 := Lib.hid hS1)
              refine only_normal (hR _ _ (Keep.step (fun h => h.trans hg1)) ?_)
              clear hR R
              simp only [Act.put, List.setIfInBounds_toArray, List.set_cons_succ, List.set_cons_zero]
              refine still_next (j := 12) (by kernel_rfl) (by rfl) (fun R hR => ?_)
              (try simp only [List.getElem_toArray, List.getElem_cons_succ, List.getElem_cons_zero])
              go_wp2_with (at_builtin; go_loud (refine wpList_append_rd rfl (.tmp 86) (.tmp 97) 35 rfl w6.heap.size 9 is (.string ByteArray.empty) 1 16 (by kernel_rfl) his hs0 hs1 hs2 rfl (by decide) (.slice po ls.length co) ls.length (ls.map Value.string) rfl (own_gr (hgD.trans hg1) hL.out) (.slice p1 LW.length k1) LW.length (LW.map Value.string) rfl hS1.out (strs_oneCell _) ?_ ?_ ?_ ?_; (· unfold maxLen; omega); (· omega); (· have h1 := hgx2.size; have h2 := (hgD.trans hg1).size; omega); intro lv2 w3 hown3 hgrow3))
              have hgE : Gr w6 w3 := ((hgx2.trans hgD).trans hg1).grown hgrow3 hge2
              have hgU : Gr U w3 ∨ True := .inr trivial
              have hO3 : StrsO w6.heap.size 9 w3 lv2 (ls ++ LW) := by unfold StrsO; rw [List.map_append, List.length_append]; exact hown3
              clear hown3 hgrow3 hgU
              refine only_normal (hR _ _ (Keep.step (fun _ => hgE)) ?_)
              clear hR R
              simp only [Act.put, List.setIfInBounds_toArray, List.set_cons_succ, List.set_cons_zero]
              refine still_pure 13 (v := lv2) rfl (by kernel_rfl) (by kernel_rfl) (by kernel_rfl) (fun h => absurd h (by decide)) rfl (fun wq hw => ?_) ?_
              · simp [execOp, go_sem]
              simp only [Act.put, List.setIfInBounds_toArray, List.set_cons_succ, List.set_cons_zero]
              refine still_done (by kernel_rfl) ?_
              (try simp only [List.getElem_toArray, List.getElem_cons_succ, List.getElem_cons_zero, List.setIfInBounds_toArray, List.set_cons_succ, List.set_cons_zero])
              go_wp2
              go_roundw
              case rel => exact ⟨t + 1, ls ++ LW, by go_num, by omega, hgE, hO3, by rw [List.length_append]; omega, hV2⟩
              case measure => simp [RowKit.intOf]; omega
            · have qt : decide (t < c.ss.length) = false := decide_eq_false ct
              have qt' : decide ((t : Int) < (c.ss.length : Int)) = false := decide_eq_false (by omega)
              obtain rfl : t = c.ss.length := by omega
              have hLW : Hid (linesW rk c.ss = ls.take 4) := by
                have h1 := hLe.out
                rw [List.take_length] at h1
                rw [h1]; exact Lib.hid rfl
              have hcap := own_cap hL.out
              by_cases d3 : ls.length = 0
              · have g3 : ((ls.length : Int) == 0) = true := by simp [d3]
                have g3' : (ls.length == 0) = true := by simp [d3]
                have hV := hV0.out (by unfold repOne; rw [dm.out.1, dm.out.2, if_neg (by show ¬ c.t ≤ ma; omega), if_neg (by rw [hR.out]; show ¬ mb - ma < rs; omega), if_pos (by rw [hR.out]; show linesW rk c.ss = []; rw [hLW.out, List.eq_nil_of_length_eq_zero d3]; rfl)])
                clear hst hV0 hLe
                go_wp2
                go_roundw
                case rel => exact ⟨kk + 1, fv, cs', by go_num, rfl, by omega, hf0, hf1, hgx.trans hgx2, hO.out.gr hgx2, hV⟩
                case measure => simp [RowKit.intOf]; omega
              · have g3 : ((ls.length : Int) == 0) = false := beq_eq_false_iff_ne.2 (by omega)
                have hne4 : ls.take 4 ≠ [] := fun h => d3 (by have h2 := congrArg List.length h; rw [List.length_take, show ([] : List ByteArray).length = 0 from rfl] at h2; omega)
                have hone1 : repOne R e fv (cAbs c) = some (ma, mb, ls.take 4) := by
                  unfold repOne
                  rw [dm.out.1, dm.out.2, if_neg (by show ¬ c.t ≤ ma; omega), if_neg (by rw [hR.out]; show ¬ mb - ma < rs; omega), if_neg (by rw [hR.out]; show ¬ linesW rk c.ss = []; rw [hLW.out]; exact hne4), hR.out]
                  show some (ma, mb, linesW rk c.ss) = _
                  rw [hLW.out]
                have hst1 := hst.out
                rw [repGo_some hone1] at hst1
                have hg0 : Hid (R.g = rg) := by rw [hR.out]; exact Lib.hid rfl
                have hV : Hid (∀ lv, Hid ((cs' ++ [Cu.mk ma mb lv (ls.take 4)]).map cAbs ++ repGo R e (mb + rg) ((ss.drop (kk + 1)).map cAbs) = RES ∧ (∀ d ∈ cs' ++ [Cu.mk ma mb lv (ls.take 4)], CuOk d) ∧ (cs' ++ [Cu.mk ma mb lv (ls.take 4)]).length ≤ kk + 1)) := by
                  refine Lib.hid (fun lv => Lib.hid ⟨?_, fun d hd => ?_, ?_⟩)
                  · rw [← hst1.1, List.map_append, List.append_assoc, hg0.out]
                    rfl
                  · rcases List.mem_append.1 hd with h | h
                    · exact hst1.2.1 d h
                    · rw [List.mem_singleton.1 h]
                      exact ⟨by simp only; omega, by simp only; omega, by simp only; omega, by simp only; omega, by simp only [List.length_take]; omega, fun x hx => hvl.out x (by rw [hLW.out]; exact hx)⟩
                  · rw [List.length_append]
                    show _ + 1 ≤ _
                    omega
                have hrd := Lib.hid hL.out.read
                have hF : ∀ (n' : Nat), Far w4.heap.size 66 wr (.slice po n' co) := fun n' k hk => Far.row (base := w4.heap.size) (e := 66) hL.out (by decide) k ((slice_own po n' co ls.length co).symm.trans hk)
                have hF := Lib.hid hF
                clear hst hst1 hV0 hLe hone1 hLW
                by_cases c4 : ls.length ≤ 4
                · have g4 : decide (4 < ls.length) = false := decide_eq_false (by omega)
                  have g4' : decide ((4 : Int) < (ls.length : Int)) = false := decide_eq_false (by omega)
                  have hstr : Hid (StrsR wr (.slice po ls.length co) (ls.take 4)) := by rw [List.take_of_length_le c4]; exact hrd
                  have hfar := Lib.hid (hF.out ls.length)
                  go_wp2_with (at_builtin; go_loud (refine wpList_append_rd rfl (.tmp 107) (.tmp 112) 22 rfl w4.heap.size 66 ic (.agg #[.int .i64 0, .int .i64 0, .slice none 0 0]) 3 40 (by kernel_rfl) hic hic0 hic1 hic2 rfl (by decide) _ _ _ rfl ((hO.out.gr hgx2).own.alloc _) _ 1 [.int .i64 ma, .int .i64 mb, .slice po ls.length co] rfl (Rd.new wr #[.int .i64 ma, .int .i64 mb, .slice po ls.length co] 66 1 3 1 rfl) ?_ ?_ ?_ ?_ ?_); (· intro u hu; simp at hu; rcases hu with rfl | rfl | rfl <;> rfl); (· unfold maxLen; omega); (· omega); (· have h1 := hgx.size; have h2 := hgx2.size; simp; omega); intro v8 w8 hown8 hgrow8; have hk8 := ((k4.out.gr (hgx.trans hgx2)).alloc (.cells #[.int .i64 ma, .int .i64 mb, .slice po ls.length co] 66)).grown hgrow8 (fun h => by have := hgeO.out _ h; omega); have hx8 := hk8.lt; obtain ⟨z0, z1, z2, z3⟩ := hk8.four)
                  have hgA : Gr w6 (wr.alloc (.cells #[.int .i64 ma, .int .i64 mb, .slice po ls.length co] 66)) := hgx2.alloc _
                  have hO8 := (hO.out.gr hgA).app ⟨ma, mb, .slice po ls.length co, ls.take 4⟩ (Rd.gr ((Gr.refl wr).alloc _) hstr.out) (Far.gr ((Gr.refl wr).alloc _) hfar.out) hown8 hgrow8
                  have hg8 : Gr w4 w8 := (hgx.trans hgA).grown hgrow8 hgeO.out
                  clear hown8 hgrow8
                  go_roundw
                  case rel => exact ⟨kk + 1, mb + rg, _, by go_num, rfl, by omega, by omega, by omega, hg8, hO8, hV.out _⟩
                  case measure => simp [RowKit.intOf]; omega
                · have g4 : decide (4 < ls.length) = true := decide_eq_true (by omega)
                  have g4' : decide ((4 : Int) < (ls.length : Int)) = true := decide_eq_true (by omega)
                  have c5 : 4 ≤ co := by omega
                  have hstr : Hid (StrsR wr (.slice po 4 co) (ls.take 4)) := by
                    have := Rd.take hrd.out 4 (by omega)
                    unfold StrsR
                    rw [List.length_take, Nat.min_eq_left (by omega), List.map_take]
                    exact Lib.hid this
                  have hfar := Lib.hid (hF.out 4)
                  go_wp2_with (at_builtin; go_loud (refine wpList_append_rd rfl (.tmp 107) (.tmp 112) 22 rfl w4.heap.size 66 ic (.agg #[.int .i64 0, .int .i64 0, .slice none 0 0]) 3 40 (by kernel_rfl) hic hic0 hic1 hic2 rfl (by decide) _ _ _ rfl ((hO.out.gr hgx2).own.alloc _) _ 1 [.int .i64 ma, .int .i64 mb, .slice po 4 co] rfl (Rd.new wr #[.int .i64 ma, .int .i64 mb, .slice po 4 co] 66 1 3 1 rfl) ?_ ?_ ?_ ?_ ?_); (· intro u hu; simp at hu; rcases hu with rfl | rfl | rfl <;> rfl); (· unfold maxLen; omega); (· omega); (· have h1 := hgx.size; have h2 := hgx2.size; simp; omega); intro v8 w8 hown8 hgrow8; have hk8 := ((k4.out.gr (hgx.trans hgx2)).alloc (.cells #[.int .i64 ma, .int .i64 mb, .slice po 4 co] 66)).grown hgrow8 (fun h => by have := hgeO.out _ h; omega); have hx8 := hk8.lt; obtain ⟨z0, z1, z2, z3⟩ := hk8.four)
                  have hgA : Gr w6 (wr.alloc (.cells #[.int .i64 ma, .int .i64 mb, .slice po 4 co] 66)) := hgx2.alloc _
                  have hO8 := (hO.out.gr hgA).app ⟨ma, mb, .slice po 4 co, ls.take 4⟩ (Rd.gr ((Gr.refl wr).alloc _) hstr.out) (Far.gr ((Gr.refl wr).alloc _) hfar.out) hown8 hgrow8
                  have hg8 : Gr w4 w8 := (hgx.trans hgA).grown hgrow8 hgeO.out
                  clear hown8 hgrow8
                  go_roundw
                  case rel => exact ⟨kk + 1, mb + rg, _, by go_num, rfl, by omega, by omega, by omega, hg8, hO8, hV.out _⟩
                  case measure => simp [RowKit.intOf]; omega
    · have q6 : decide (kk < cs.length) = false := decide_eq_false c1
      obtain ⟨m1, m2, m3⟩ := hno.out
      rw [List.drop_of_length_le (by omega), List.map_nil, repGo, List.append_nil] at m1
      have m1 := Lib.hid m1
      have m2 := Lib.hid m2
      have hrd := hO.read
      obtain ⟨po, co, rfl⟩ := own_shape hO.own
      have hrd := Lib.hid hrd
      clear hmem hno hO
      go_wp2
      simp [bodyPost, results, Tryd.results34, go_sem]
      exact ⟨hw4.trans hgw, cs', ⟨hrd.out, m2.out, by omega⟩, ts, hfin.out.1, by rw [← List.map_map, hfin.out.2]; exact m1.out⟩
end Go.Proofs.YtckmebfgianeoaaDoor
