/-
  Contract of Of of package edl, and what follows for the laws about it.
  Conditions: the track lies in memory.
-/
import Derived.Test.YtgbiodnfpbhjiaaGreatDoorWalkOfD
import Derived.Test.YtgbiodnfpbhjiaaGreatDoorMathCf
import Derived.Test.YtgbiodnfpbhjiaaGreatDoorWalkUe
namespace Go.Proofs.YtgbiodnfpbhjiaaGreatDoor
open Go.RowKit Go.Lib
set_option linter.unusedSimpArgs false
set_option linter.unusedVariables false

theorem cutG_mem {l : List Cl} {c : Cl} (h : c ∈ cutG l) : c ∈ l := by
  unfold cutG at h
  split at h
  · split at h
    · exact List.dropLast_subset _ h
    · exact h
  · exact h
theorem cutG_len (l : List Cl) : (cutG l).length ≤ l.length := by
  unfold cutG
  split
  · split
    · rw [List.length_dropLast]; omega
    · exact Nat.le_refl _
  · exact Nat.le_refl _
theorem cutG_tot {l : List Cl} (h : ∀ c ∈ l, VL c) : tot (cutG l) ≤ tot l := by
  unfold cutG
  split
  · rename_i c hc
    split
    · obtain ⟨r, hr⟩ := List.getLast?_eq_some_iff.1 hc
      subst hr
      rw [List.dropLast_concat, tot_append]
      have : 0 ≤ tot [c] := tot_nonneg fun d hd => h d (List.mem_append_right _ hd)
      omega
    · exact Int.le_refl _
  · exact Int.le_refl _
theorem Packed.pre : ∀ {l : List Cl} {r : List Cl}, Packed (l ++ r) → Packed l
  | [], _, _ => trivial
  | [c], _, _ => trivial
  | c :: d :: l, r, h => ⟨h.1, Packed.pre (l := d :: l) (r := r) h.2⟩
theorem Packed.two : ∀ {l : List Cl} {c d : Cl} {r : List Cl}, Packed (l ++ c :: d :: r) → cont c d = false
  | [], _, _, _, h => h.1
  | [x], c, d, r, h => Packed.two (l := []) (r := r) h.2
  | x :: y :: l, c, d, r, h => Packed.two (l := y :: l) (r := r) h.2
theorem cutG_packed {l : List Cl} (h : Packed l) : Packed (cutG l) := by
  unfold cutG
  split
  · rename_i c hc
    split
    · obtain ⟨r, hr⟩ := List.getLast?_eq_some_iff.1 hc
      subst hr
      rw [List.dropLast_concat]
      exact h.pre
    · exact h
  · exact h
theorem cutG_last {l : List Cl} (h : Packed l) : ∀ c, (cutG l).getLast? = some c → c.kind ≠ 0 := by
  intro c hc hk
  unfold cutG at hc
  split at hc
  · rename_i d hd
    split at hc
    · rename_i hdk
      obtain ⟨r, hr⟩ := List.getLast?_eq_some_iff.1 hd
      subst hr
      rw [List.dropLast_concat] at hc
      obtain ⟨s, hs⟩ := List.getLast?_eq_some_iff.1 hc
      subst hs
      rw [List.append_assoc] at h
      have := Packed.two (l := s) (c := c) (d := d) (r := []) h
      unfold cont at this
      rw [decide_eq_true (by exact ⟨hk, hdk⟩)] at this
      cases this
    · rename_i hdk
      rw [hd] at hc
      injection hc with hc
      subst hc
      exact hdk hk
  · rename_i hd
    rw [hd] at hc
    cases hc
theorem nmC_parts {l : List Cl} (h : vtB l = true) : (∀ c ∈ nmC l, VC c) ∧ tot (nmC l) ≤ 2147483647 ∧ (nmC l).length ≤ 64 ∧ Packed (nmC l) ∧ ∀ c, (nmC l).getLast? = some c → c.kind ≠ 0 := by
  have hT := (vtB_iff _).1 h
  have hv := pk_valid hT.vc hT.tot
  unfold nmC
  rw [if_pos h]
  refine ⟨fun c hc => hv c (cutG_mem hc), ?_, ?_, cutG_packed (pk_packed l), cutG_last (pk_packed l)⟩
  · have := cutG_tot (l := pk l) fun c hc => (hv c hc).vl
    rw [pk_tot] at this
    have := hT.tot
    omega
  · have := cutG_len (pk l)
    have := pk_len l
    have := hT.len
    omega
/-- what Of hands back -/
def OfP (C : List Cl) (title : ByteArray) (base : Int) (drop : Bool) (l : El) (E : Int) : Prop :=
  (¬ (C19.okB base drop = true ∧ vtB C = true ∧ vLine title = true) ∧ E = 1 ∧ l = ⟨⟨#[]⟩, 0, false, []⟩) ∨
  ((C19.okB base drop = true ∧ vtB C = true ∧ vLine title = true) ∧ E = 0 ∧ ∃ acc, ofR (nmC C) [] 0 = some acc ∧ l = ⟨title, base, drop, acc.reverse⟩ ∧ vEl l = true) ∨
  ((C19.okB base drop = true ∧ vtB C = true ∧ vLine title = true) ∧ E = 3 ∧ l = ⟨⟨#[]⟩, 0, false, []⟩ ∧ ∀ acc, ofR (nmC C) [] 0 = some acc → vEl ⟨title, base, drop, acc.reverse⟩ = false)
theorem eof_any (cs : List CM) (v : Value) (title : ByteArray) (base : Int) (drop : Bool) (w : World) (h : TrR w v cs) (hok : ∀ c ∈ cs, ClOk c.c) (ht : title.size ≤ 140737488355328) :
    Calls Tryz.prog 20 #[v, .string title, .int .i64 base, .bool drop] w fun e w' => ∃ (l : El) (lv : Value) (E : Int), e = .returned (.tuple #[l.val lv, .int .i64 E]) ∧ Gr w w' ∧ ElR w' lv l ∧ (∀ a n c, lv = .slice a n c → n ≤ c) ∧ OfP (cs.map CM.c) title base drop l E := by
  by_cases hg : C19.okB base drop = true ∧ vtB (cs.map CM.c) = true ∧ vLine title = true
  · obtain ⟨p1, p2, p3, _, _⟩ := nmC_parts hg.2.1
    refine (eof_yes 22 rfl cs v title base drop w h hok ht hg.1 hg.2.1 hg.2.2 p1 p2 p3).mono ?_
    rintro e w' ⟨l, lv, E, rfl, h1, h2, h3, h4⟩
    refine ⟨l, lv, E, rfl, h1, h2, h3, ?_⟩
    rcases h4 with ⟨rfl, h4⟩ | ⟨rfl, h4, h5⟩
    · exact .inr (.inl ⟨hg, rfl, h4⟩)
    · exact .inr (.inr ⟨hg, rfl, h4, h5⟩)
  · refine (eof_no cs v title base drop w h hok ht hg).mono ?_
    rintro e w' ⟨rfl, h1⟩
    exact ⟨⟨⟨#[]⟩, 0, false, []⟩, .slice none 0 0, 1, rfl, h1, ⟨EvsR.nil _, by decide, fun e he => (by cases he), by decide⟩, fun a n c e => (by injection e; omega), .inl ⟨hg, rfl, rfl⟩⟩
/-- the track of the list of a track is its normal form -/
theorem back_valid {C : List Cl} {title : ByteArray} {base : Int} {drop : Bool} {l : El} (h : OfP C title base drop l 0) : vtB C = true ∧ vEl l = true ∧ trkL l.evs = nmC C := by
  rcases h with ⟨_, a2, _⟩ | ⟨a1, _, acc, a3, a4, a5⟩ | ⟨_, a2, _⟩
  · cases a2
  · refine ⟨a1.2.1, a5, ?_⟩
    obtain ⟨p1, p2, p3, p4, p5⟩ := nmC_parts a1.2.1
    have hb := of_back (nmC C) [] 0 acc (fun x hx => by cases hx) (Int.le_refl _) (Int.le_refl _) (fun hlt => absurd hlt (Int.lt_irrefl _)) p4 p1 a3
    have h0 : trkP [] 0 = [] := rfl
    rw [h0, List.nil_append] at hb
    rw [a4]
    show trkL acc.reverse = _
    unfold trkP at hb
    split at hb
    · exfalso
      refine p5 (gapC (0 + tot (nmC C) - endA acc)) ?_ rfl
      have h2 : (trk 0 blkS acc.reverse ++ [gapC (0 + tot (nmC C) - endA acc)]).getLast? = some (gapC (0 + tot (nmC C) - endA acc)) := by simp
      rw [hb] at h2
      exact h2
    · rw [List.append_nil] at hb
      unfold trkL
      rw [hb, pk_of_packed p4]
  · cases a2
end Go.Proofs.YtgbiodnfpbhjiaaGreatDoor
