/-
  Plain law: captions in ascending order of their bounds, equals as they came.
  Conditions: none.
-/
import Derived.Test.YtckmebfgianeoaaDoorMathT
import Derived.Test.YtckmebfgianeoaaDoorMathS
import Derived.Lib.Small
import Derived.Shelf.SlSortCmp.Insertion
namespace Go.Proofs.YtckmebfgianeoaaDoor
open Go.Sort
set_option linter.unusedVariables false

abbrev TC := Cu × Nat
instance : Inhabited Cu := ⟨⟨0, 0, .bool false, []⟩⟩
def cfC (x y : Cu) : Int := if Lib.compareInt x.f y.f ≠ 0 then Lib.compareInt x.f y.f else Lib.compareInt x.t y.t
def cfT (x y : TC) : Int := cfC x.1 y.1
def ltC (x y : Cu) : Bool := decide (x.f < y.f ∨ (x.f = y.f ∧ x.t < y.t))
def ltT (x y : TC) : Bool := ltC x.1 y.1
theorem cfC_neg (x y : Cu) : decide (cfC x y < 0) = ltC x y := by
  unfold cfC ltC Lib.compareInt
  refine decide_eq_decide.2 ?_
  by_cases h1 : x.f < y.f
  · simp [h1]
  · by_cases h2 : x.f > y.f
    · have : ¬ x.f = y.f := by omega
      simp [h1, h2, this]
    · have h3 : x.f = y.f := by omega
      simp only [h3, Int.lt_irrefl, gt_iff_lt, if_false, ne_eq, not_true_eq_false, false_or, true_and]
      split
      · simp [*]
      · split <;> simp [*]
theorem ltOf_cfT : ltOf cfT = ltT := by
  funext x y
  exact cfC_neg x.1 y.1
theorem ltT_swo : SWO ltT := by
  refine ⟨fun x => ?_, fun x y z h1 h2 => ?_, fun x y z h1 h2 => ?_⟩
  all_goals
    unfold ltT ltC at *
    simp only [decide_eq_true_eq, decide_eq_false_iff_not] at *
    omega
/-- ts: the captions in ascending order, equals as they came, each with its place -/
def IsSt (cs : List Cu) (ts : List TC) : Prop := ts.Pairwise (fun x y => stR ltT Prod.snd x y = true) ∧ ts.Perm cs.zipIdx
theorem IsSt.unique {cs : List Cu} {t1 t2 : List TC} (h1 : IsSt cs t1) (h2 : IsSt cs t2) : t1 = t2 :=
  stR_unique ltT_swo (h1.2.trans h2.2.symm) h1.1 h2.1
theorem IsSt.len {cs : List Cu} {ts : List TC} (h : IsSt cs ts) : ts.length = cs.length := by
  rw [h.2.length_eq, List.length_zipIdx]
theorem IsSt.mem {cs : List Cu} {ts : List TC} (h : IsSt cs ts) : ∀ c ∈ ts.map Prod.fst, c ∈ cs := by
  intro c hc
  obtain ⟨x, hx, rfl⟩ := List.mem_map.1 hc
  have := h.2.mem_iff.1 hx
  obtain ⟨_, hi, he⟩ := List.mem_zipIdx this
  rw [he]
  exact List.getElem_mem _
theorem zip_tags (cs : List Cu) : (cs.zipIdx.map Prod.snd).Nodup := by
  rw [List.zipIdx_map_snd]
  exact List.nodup_range' ..
/-- out of the sort's words -/
theorem IsSt.of_sort {cs : List Cu} {d : Array TC} (hp : PermIn 0 cs.zipIdx.toArray.size cs.zipIdx.toArray d) (hs : SortedIn (stR ltT Prod.snd) 0 cs.zipIdx.toArray.size d) : IsSt cs d.toList := by
  have h3 := hp.2.2
  have hsz := hp.1
  have hperm : d.toList.Perm cs.zipIdx := by
    have e1 : d.extract 0 cs.zipIdx.toArray.size = d := by rw [← hsz]; exact Array.extract_size
    have e2 : cs.zipIdx.toArray.extract 0 cs.zipIdx.toArray.size = cs.zipIdx.toArray := Array.extract_size
    rw [e1, e2] at h3
    simpa using h3
  refine ⟨sorted_pair (tag := Prod.snd) (fun i j hi hj hij => ?_) (by rw [hsz]; exact hs), hperm⟩
  have hn : (d.toList.map Prod.snd).Nodup := (hperm.map _).nodup_iff.2 (zip_tags cs)
  have hn2 := List.pairwise_iff_getElem.1 hn
  have gi : (d.toList.map Prod.snd)[i]'(by simpa using hi) = d[i]!.2 := by simp [getElem!_pos d i hi]
  have gj : (d.toList.map Prod.snd)[j]'(by simpa using hj) = d[j]!.2 := by simp [getElem!_pos d j hj]
  rcases Nat.lt_or_gt_of_ne hij with h | h
  · have := hn2 i j (by simpa using hi) (by simpa using hj) h
    rw [gi, gj] at this
    exact this
  · have := hn2 j i (by simpa using hj) (by simpa using hi) h
    rw [gi, gj] at this
    exact fun e => this e.symm
theorem ord_later : ∀ {cs : List Cu}, ordB cs = true → vCues cs = true → cs.Pairwise (fun x y => ltC x y = true)
  | [], _, _ => List.Pairwise.nil
  | c :: l, ho, hv => by
    have hv2 : (vCu c && vCues l) = true := hv
    rw [Bool.and_eq_true] at hv2
    have hcb := vCu_bounds hv2.1
    refine List.pairwise_cons.2 ⟨fun d hd => ?_, ord_later (cs := l) ?_ hv2.2⟩
    · rw [ordB_abs] at ho
      rw [vCues_abs] at hv
      have h := ord_from (c := cAbs c) (l := l.map cAbs) (by simpa using ho) (by simpa using hv) (cAbs d) (List.mem_map_of_mem hd)
      unfold ltC
      have h : c.t ≤ d.f := h
      exact decide_eq_true (by omega)
    · rw [ordB_abs] at ho ⊢
      exact ord_tail (c := cAbs c) (by simpa using ho)
/-- ordered captions stand as they should -/
theorem IsSt.of_ord {cs : List Cu} (ho : ordB cs = true) (hv : vCues cs = true) : IsSt cs cs.zipIdx := by
  refine ⟨?_, List.Perm.refl _⟩
  rw [List.pairwise_iff_getElem]
  intro i j hi hj hij
  rw [stR_iff]
  left
  have h := List.pairwise_iff_getElem.1 (ord_later ho hv) i j (by simpa using hi) (by simpa using hj) hij
  simpa [ltT] using h
theorem zip_fst (cs : List Cu) : cs.zipIdx.map Prod.fst = cs := by rw [List.zipIdx_map_fst]
end Go.Proofs.YtckmebfgianeoaaDoor
