/-
  Contract of Parse of the reference at a string that is no number; both contracts joined.
  Conditions: the string has at most 2^47 bytes; the listed variables of strconv hold what their text lays (for the program's Parse).
-/
import Derived.Test.YtclfiaemjdflbaaDoorParse
namespace Go.Proofs.YtclfiaemjdflbaaDoor
open Go.RowKit Go.Lib
set_option linter.unusedSimpArgs false
set_option linter.unusedVariables false

theorem nu_bounds (s : ByteArray) (i : Nat) (hi : i ≤ s.size) : ∃ m k : Nat, nuN i (numF 19 0 0 (s.data.toList.drop i)) = m ∧ nuK i (numF 19 0 0 (s.data.toList.drop i)) = k ∧ m ≤ 9223372036854775807 ∧ k ≤ s.size := by
  cases hR : numF 19 0 0 (s.data.toList.drop i) with
  | none => exact ⟨0, i, rfl, rfl, by decide, hi⟩
  | some R =>
    obtain ⟨m, j⟩ := R
    have h1 := numF_le _ _ _ _ m j (by decide) hR
    have h2 := List.length_drop (i := i) (l := s.data.toList)
    have h3 := ba_len s
    exact ⟨m, i + j, rfl, rfl, h1.1, by omega⟩

theorem rparse_no (s : ByteArray) (w : World) (hs : s.size ≤ 140737488355328) (h : ∀ n d, ¬ IsFr s n d) :
    Calls Tryd.prog 15 #[.string s] w fun e w' => e = .returned (.tuple #[.agg #[.int .i64 0, .int .i64 0], .int .i64 3]) ∧ Gr w w' := by
  by_cases hz : 0 < s.size
  · obtain ⟨i, hi, hb⟩ : ∃ i : Nat, i ≤ s.size ∧ ((((s[0].toNat : Int) == 45) = true ∧ i = 1) ∨ (((s[0].toNat : Int) == 45) = false ∧ i = 0)) := by
      cases hc : ((s[0].toNat : Int) == 45)
      · exact ⟨0, by omega, .inr ⟨rfl, rfl⟩⟩
      · exact ⟨1, by omega, .inl ⟨rfl, rfl⟩⟩
    obtain ⟨m, k, e1, e2, hm, hk⟩ := nu_bounds s i hi
    have HN := fun w => number_any s i w hs hi
    rw [e1, e2] at HN
    obtain ⟨v1, hv1, hb2⟩ : ∃ v1 : Int, I64 v1 ∧ ((((s[0].toNat : Int) == 45) = true ∧ (i : Int) = 1 ∧ v1 = -(m : Int)) ∨ (((s[0].toNat : Int) == 45) = false ∧ (i : Int) = 0 ∧ v1 = (m : Int))) := by
      rcases hb with ⟨a, rfl⟩ | ⟨a, rfl⟩
      · exact ⟨-(m : Int), ⟨by omega, by omega⟩, .inl ⟨a, rfl, rfl⟩⟩
      · exact ⟨(m : Int), ⟨by omega, by omega⟩, .inr ⟨a, rfl, rfl⟩⟩
    obtain ⟨d, k2, hd, hsl⟩ : ∃ d k2 : Int, I64 d ∧ ((∃ h : k < s.size, ((s[k].toNat : Int) == 47) = true ∧ (∀ w, Calls Tryd.prog 31 #[.string s, .int .i64 (k + 1)] w fun e w' => e = .returned (.tuple #[.int .i64 d, .int .i64 k2]) ∧ Gr w w')) ∨ (k = s.size ∧ d = 1) ∨ (∃ h : k < s.size, ((s[k].toNat : Int) == 47) = false ∧ d = 1)) := by
      by_cases hk3 : k < s.size
      · cases hc : ((s[k].toNat : Int) == 47)
        · exact ⟨1, 0, ⟨by decide, by decide⟩, .inr (.inr ⟨hk3, hc, rfl⟩)⟩
        · obtain ⟨m2, k2, f1, f2, hm2, hk2⟩ := nu_bounds s (k + 1) (by omega)
          refine ⟨m2, k2, ⟨by omega, by omega⟩, .inl ⟨hk3, hc, fun w => ?_⟩⟩
          have := number_any s (k + 1) w hs (by omega)
          rw [f1, f2] at this
          exact this
      · exact ⟨1, 0, ⟨by decide, by decide⟩, .inr (.inl ⟨by omega, rfl⟩)⟩
    have HF := fun w => rformat_any v1 d w hv1 hd
    refine rparse_core s _ k i m d k2 v1 0 0 3 w hz hs (by omega) (by omega) hk hb2 HN hsl HF (.inl ⟨neq_list ?_, rfl, rfl, rfl⟩)
    intro he
    cases hv : vB v1 d
    · unfold fmtV at he
      rw [hv] at he
      have := ba_len s
      rw [← he] at this
      simp at this
      omega
    · refine h v1 d ⟨hv, hv1, hd, ?_⟩
      rw [← he]
      unfold fmtV
      rw [hv, if_pos rfl]
  · have : s = ⟨#[]⟩ := by
      apply ba_ext
      have := ba_len s
      cases hl : s.data.toList with
      | nil => rfl
      | cons _ _ => rw [hl] at this; simp at this; omega
    rw [this]
    exact rparse_empty w

/-- Parse of the program and Parse of the reference say the same at every string -/
theorem parse_both (s : ByteArray) (hs : s.size ≤ 140737488355328) : ∃ RN RD RE : Int, I64 RN ∧ I64 RD ∧
    (∀ w, Tabs w → Calls Tryd.prog 13 #[.string s] w fun e w' => e = .returned (.tuple #[.agg #[.int .i64 RN, .int .i64 RD], .int .i64 RE]) ∧ Gr w w') ∧
    (∀ w, Calls Tryd.prog 15 #[.string s] w fun e w' => e = .returned (.tuple #[.agg #[.int .i64 RN, .int .i64 RD], .int .i64 RE]) ∧ Gr w w') ∧
    (∀ n d, IsFr s n d → RN = n ∧ RD = d ∧ RE = 0) ∧ ((∀ n d, ¬ IsFr s n d) → RN = 0 ∧ RD = 0 ∧ RE = 3) := by
  by_cases hx : ∃ n d, IsFr s n d
  · obtain ⟨n, d, hf⟩ := hx
    exact ⟨n, d, 0, hf.2.1, hf.2.2.1, fun w hT => parse_yes s n d w hT hs hf, fun w => rparse_yes s n d w hs hf, fun a b h => by have := IsFr.unique hf h; exact ⟨this.1, this.2, rfl⟩, fun h => absurd hf (h n d)⟩
  · have hx : ∀ n d, ¬ IsFr s n d := fun n d h => hx ⟨n, d, h⟩
    exact ⟨0, 0, 3, ⟨by decide, by decide⟩, ⟨by decide, by decide⟩, fun w hT => parse_no s w hT hs hx, fun w => rparse_no s w hs hx, fun a b h => absurd h (hx a b), fun _ => ⟨rfl, rfl, rfl⟩⟩
end Go.Proofs.YtclfiaemjdflbaaDoor
