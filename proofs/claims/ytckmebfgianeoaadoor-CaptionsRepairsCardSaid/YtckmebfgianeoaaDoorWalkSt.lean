/-
  Contracts of slices.Clone of a list of captions and of its stable sort, in the words of the lists in memory.
  Conditions: at most 19 captions are sorted.
-/
import Derived.Test.YtckmebfgianeoaaDoorWalkSo
import Derived.Test.YtckmebfgianeoaaDoorMem
namespace Go.Proofs.YtckmebfgianeoaaDoor
open Go.RowKit Go.Lib Go.Sort
set_option linter.unusedSimpArgs false
set_option linter.unusedVariables false

set_option maxHeartbeats 1000000 in
theorem cclone_any (v : Value) (cs : List Cu) (w : World) (hR : Rd w v cs.length 3 (flat cs)) (h1 : ∀ u ∈ flat cs, u.oneCell' = true) (hn : cs.length * 40 ≤ 140737488355328) :
    Calls Tryd.prog 61 #[v] w fun e w' => ∃ v', e = .returned v' ∧ Gr w w' ∧ w'.ownsRow w.heap.size 66 3 v' cs.length (flat cs) := by
  have hR0 := hR
  obtain ⟨_, a, cap, rfl, h0⟩ := hR0
  obtain ⟨ic, hic, hic0, hic1, hic2⟩ := info_parts infoCue
  have h0 := Lib.hid h0
  cases a with
  | none =>
    rcases h0.out with ⟨hz, h0'⟩ | ⟨b, o, h, _⟩
    · have hss : cs = [] := List.eq_nil_of_length_eq_zero hz
      obtain rfl : cap = 0 := h0' rfl
      subst hss
      clear h0 h0' hR hn hz h1
      show Calls Tryd.prog 61 #[.slice none 0 0] w _
      have hnil : ∀ w, (binOp .eql 22 (.slice none 0 0) (.slice none 0 0)).run Tryd.prog w = .ok (.bool true) w := fun w => Lib.run_eql_slice_nil w _ 66 none _ _ _ _ (by kernel_rfl)
      go_enter Tryd.func61, Tryd.ntmps61
      go_wp2
      go_ret
      exact ⟨_, rfl, (by repeat (first | with_reducible exact Gr.refl _ | with_reducible assumption | refine Gr.setCell ?_ (by first | omega | (simp; done) | (simp; omega)) _ | refine Gr.alloc ?_ _ | refine Gr.drew ?_ | refine Gr.drewN ?_ _ | refine Gr.trans ?_ (by with_reducible assumption))), World.ownsRow_nil _ _ _ _⟩
    · cases h
  | some ad =>
    have hnil : ∀ w, (binOp .eql 22 (.slice (some ad) cs.length cap) (.slice none 0 0)).run Tryd.prog w = .ok (.bool false) w := fun w => Lib.run_eql_slice_nil w _ 66 (some ad) _ _ _ _ (by kernel_rfl)
    have hR := Lib.hid hR
    have h1 := Lib.hid h1
    go_enter Tryd.func61, Tryd.ntmps61
    go_wp2_with (at_builtin; refine wpList_append_rd rfl (.tmp 5) (.tmp 6) 22 rfl w.heap.size 66 ic (.agg #[.int .i64 0, .int .i64 0, .slice none 0 0]) 3 40 (by kernel_rfl) hic hic0 hic1 hic2 rfl (by decide) _ _ _ rfl (own_empty w w.heap.size 66 3 (Nat.le_refl _)) _ cs.length (flat cs) rfl (hR.out.gr ((Gr.refl w).alloc _)) h1.out ?_ ?_ ?_ ?_; (· unfold maxLen; omega); (· omega); (· simp); intro lv w2 hown2 hgrow2; have hg2 : Gr w w2 := ((Gr.refl w).alloc _).grown hgrow2 (fun k hk => by cases hk; exact Nat.le_refl _); simp only [Nat.zero_add, List.nil_append] at hown2; obtain ⟨p3, cap3, rfl⟩ := own_shape hown2)
    go_ret
    exact ⟨_, rfl, hg2, hown2⟩

theorem flatK_flat (cs : List Cu) (hl : ∀ x ∈ cs, x.lv.oneCell' = true) : flatK encT 3 cs.zipIdx.toArray = (flat cs).toArray := by
  refine ext_get! (by simp [flat_length]) (fun t ht => ?_)
  have ht : t < cs.length * 3 := by simpa using ht
  rw [get_flatK _ _ _ _ (by simpa using ht)]
  have hi : t / 3 < cs.length := by omega
  have hf := flat_at cs (t / 3) hi
  have e1 : cs.zipIdx.toArray[t / 3]! = (cs[t / 3], t / 3) := by
    rw [getElem!_pos _ _ (by simpa using hi)]
    simp
  rw [e1, encT_cells (hl _ (List.getElem_mem hi))]
  have e2 : ∀ j v, (flat cs)[j]? = some v → (flat cs).toArray[j]! = v := fun j v h => by
    obtain ⟨hj, hv⟩ := List.getElem?_eq_some_iff.1 h
    rw [getElem!_pos _ j (by simpa using hj)]
    simpa using hv
  rcases (show t = t / 3 * 3 ∨ t = t / 3 * 3 + 1 ∨ t = t / 3 * 3 + 2 by omega) with h0 | h0 | h0
  · have hm : t % 3 = 0 := by omega
    rw [hm, e2 t _ (by rw [h0]; exact hf.1)]
    rfl
  · have hm : t % 3 = 1 := by omega
    rw [hm, e2 t _ (by rw [h0]; exact hf.2.1)]
    rfl
  · have hm : t % 3 = 2 := by omega
    rw [hm, e2 t _ (by rw [h0]; exact hf.2.2)]
    rfl
theorem holdsK_own {w : World} {base : Nat} {e : TypeId} {a : Option Addr} {c : Nat} {cs : List Cu} (h : w.ownsRow base e 3 (.slice a cs.length c) cs.length (flat cs)) (hl : ∀ x ∈ cs, x.lv.oneCell' = true) (hn : 0 < cs.length) :
    ∃ g, a = some ⟨g, 0, none⟩ ∧ base ≤ g ∧ g < w.heap.size ∧ HoldsK encT 3 w g 0 cs.zipIdx.toArray := by
  rcases h.2 with ⟨h1, h2⟩ | ⟨g, cap, cur, h1, hb, hg, hr⟩
  · injection h1 with h3 h4; omega
  · injection h1 with h3 h4 h5
    refine ⟨g, h3, hb, (Array.getElem?_eq_some_iff.1 hg).1, ?_⟩
    unfold HoldsK
    rw [flatK_flat cs hl]
    intro j hj
    have hj : j < (flat cs).length := by simpa using hj
    refine ⟨?_, by simp [World.frozen?, hg]⟩
    rw [getElem!_pos _ j (by simpa using hj), Nat.zero_add]
    subst h3
    show w.cell? ⟨g, j, none⟩ = some ((flat cs).toArray[j]'(by simpa using hj))
    rw [List.getElem_toArray]
    simpa [Addr.add_lit] using h.cells (g := g) rfl j ((flat cs)[j]) (by simp [hj])
theorem putRowK_grown (w : World) (blk off m : Nat) (d : Array TC) (os : Array Obj) : w.grownBy (sortWorldK encT 3 w blk off m d os) (some blk) := by
  refine ⟨rfl, rfl, rfl, ?_, fun k hk hne => ?_⟩
  · unfold sortWorldK
    rw [size_grow, size_putRowK]
    exact Nat.le_add_right _ _
  · have hs : k < (putRowK encT 3 (Sort.ahead w m) blk off d).heap.size := by rw [size_putRowK]; exact hk
    show ((putRowK encT 3 (Sort.ahead w m) blk off d).heap ++ os)[k]? = w.heap[k]?
    rw [Array.getElem?_append_left hs]
    show (w.heap.modify blk _)[k]? = w.heap[k]?
    rw [Array.getElem?_modify, if_neg (fun e => hne (by rw [e]))]
theorem flat_cells {w : World} {blk off : Nat} {d : Array TC} (h : HoldsK encT 3 w blk off d) (hl : ∀ x ∈ d.toList, x.1.lv.oneCell' = true) : ∀ j u, (flat (d.toList.map Prod.fst))[j]? = some u → w.cell? ⟨blk, off + j, none⟩ = some u := by
  intro j u hj
  have hlt : j < d.size * 3 := by
    have := (List.getElem?_eq_some_iff.1 hj).1
    rw [flat_length] at this
    simpa using this
  have hi : j / 3 < d.size := by omega
  have hc := (h.cell (i := j / 3) (c := j % 3) hi (by omega)).1
  rw [show off + j / 3 * 3 + j % 3 = off + j by omega, encT_cells (hl _ (by rw [getElem!_pos d (j / 3) hi]; simp))] at hc
  rw [hc]
  have hf := flat_at (d.toList.map Prod.fst) (j / 3) (by simpa using hi)
  have e1 : (d.toList.map Prod.fst)[j / 3]'(by simpa using hi) = d[j / 3]!.1 := by simp [getElem!_pos d (j / 3) hi]
  rw [e1] at hf
  rcases (show j % 3 = 0 ∨ j % 3 = 1 ∨ j % 3 = 2 by omega) with h0 | h0 | h0
  · rw [h0]
    rw [show j = j / 3 * 3 by omega, hf.1] at hj
    rw [← hj]; rfl
  · rw [h0]
    rw [show j = j / 3 * 3 + 1 by omega, hf.2.1] at hj
    rw [← hj]; rfl
  · rw [h0]
    rw [show j = j / 3 * 3 + 2 by omega, hf.2.2] at hj
    rw [← hj]; rfl

set_option maxHeartbeats 1000000 in
/-- what is known of the list behind the sort -/
theorem sort_any (base c : Nat) (a : Option Addr) (cs : List Cu) (w : World) (h : w.ownsRow base 66 3 (.slice a cs.length c) cs.length (flat cs)) (hl : ∀ x ∈ cs, x.lv.oneCell' = true) (hn : cs.length < 20) :
    Calls Tryd.prog 62 #[.slice a cs.length c, .func (.func 63) #[] #[]] w fun e w' => e = .returned (.tuple #[]) ∧ ∃ ts, IsSt cs ts ∧ w.grownBy w' (Value.slice a cs.length c).ownBlock ∧ Rd w' (.slice a cs.length c) cs.length 3 (flat (ts.map Prod.fst)) := by
  rcases Nat.eq_zero_or_pos cs.length with h0 | h0
  · obtain rfl : cs = [] := List.eq_nil_of_length_eq_zero h0
    refine (sort_nil a c w).mono ?_
    rintro e w' ⟨rfl, rfl⟩
    exact ⟨rfl, [], IsSt.of_ord rfl rfl, grownBy_refl _ _, Rd.own h⟩
  obtain ⟨g, rfl, hb, hg, hH⟩ := holdsK_own h hl h0
  have hsz : cs.zipIdx.toArray.size = cs.length := by simp
  have hc := sort_core g 0 c cs.zipIdx.toArray w hH hg (by rw [hsz]; exact hn)
  rw [hsz] at hc
  refine hc.mono ?_
  rintro e w' ⟨rfl, n, os, rfl⟩
  have hst := insertionSort_st (tag := Prod.snd) ltT_swo cs.zipIdx.toArray 0 cs.length (Nat.zero_le _) (by rw [hsz]; exact Nat.le_refl _) (fun p q _ hpq hq => by
    rw [getElem!_pos _ p (by rw [hsz]; omega), getElem!_pos _ q (by rw [hsz]; exact hq)]
    simpa using hpq)
  generalize hD : Sort.insertionSort ltT cs.zipIdx.toArray 0 cs.length = D at *
  have hIs : IsSt cs D.toList := IsSt.of_sort (by rw [hsz]; exact hst.1) (by rw [hsz]; exact hst.2)
  have hDs : D.size = cs.zipIdx.toArray.size := hst.1.1
  refine ⟨rfl, D.toList, hIs, putRowK_grown _ _ _ _ _ _, ?_⟩
  have hHd := holdsK_sortWorldK_c encT 3 w g 0 cs.zipIdx.toArray D n os hH hg hDs
  have hlD : ∀ x ∈ D.toList, x.1.lv.oneCell' = true := fun x hx => hl _ (hIs.mem _ (List.mem_map_of_mem hx))
  have hcell := flat_cells hHd hlD
  refine ⟨by rw [flat_length, List.length_map, hIs.len], some ⟨g, 0, none⟩, c, rfl, .inr ⟨g, 0, rfl, ?_, hcell⟩⟩
  exact Nat.lt_of_lt_of_le hg (size_sortWorldK_c encT 3 w g 0 n D os)
end Go.Proofs.YtckmebfgianeoaaDoor
