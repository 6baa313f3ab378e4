/-
  Contracts of Parse on both sides, for every string: the same result, and which strings are numbers.
  Conditions: the listed variables of strconv hold what their text lays (for the program's); the string has at most 2^47 bytes.
-/
import Derived.Test.YtclfiaemjdflbaaDoorWalkPa
import Derived.Test.YtclfiaemjdflbaaDoorWalkPr
import Derived.Test.YtclfiaemjdflbaaDoorWalkPe
namespace Go.Proofs.YtclfiaemjdflbaaDoor
open Go.RowKit Go.Lib
set_option linter.unusedSimpArgs false
set_option linter.unusedVariables false

/-- s is the text of the valid number n/d -/
def IsFr (s : ByteArray) (n d : Int) : Prop := vB n d = true ∧ I64 n ∧ I64 d ∧ s.data.toList = fmtL n d
theorem IsFr.unique {s : ByteArray} {a b c d : Int} (h : IsFr s a b) (h' : IsFr s c d) : a = c ∧ b = d :=
  fmt_inj h.2.1 h.2.2.1 h'.2.1 h'.2.2.1 (by rw [← h.2.2.2, ← h'.2.2.2])
theorem ba_ext {a b : ByteArray} (h : a.data.toList = b.data.toList) : a = b := by
  cases a; cases b; simp at h; simp [h]
theorem ba_mk (s : ByteArray) : (⟨s.data.toList.toArray⟩ : ByteArray) = s := ba_ext (by simp)
theorem ba_len (s : ByteArray) : s.data.toList.length = s.size := by simp
theorem ex_list (s : ByteArray) (a b : Nat) : (s.extract a b).data.toList = (s.data.toList.drop a).take (b - a) := by
  rw [extract_eq]
theorem neq_list {t s : ByteArray} (h : t.data.toList ≠ s.data.toList) : (t.toList == s.toList) = false := by
  rw [ByteArray.toList_eq, ByteArray.toList_eq]
  simpa using h
theorem ex_size (s : ByteArray) (a b : Nat) (h : s.size ≤ 140737488355328) : (s.extract a b).size ≤ 140737488355328 := by
  have : (s.extract a b).size = ((s.data.toList.drop a).take (b - a)).length := by rw [← ba_len, ex_list]
  rw [this]
  have h1 := List.length_take_le' (b - a) (s.data.toList.drop a)
  have h2 := List.length_drop (i := a) (l := s.data.toList)
  have h3 := ba_len s
  omega
theorem pb_i64 {l : List UInt8} {v : Int} (h : parseIntB 64 l = .ok v) : I64 v := by
  have := parseIntB_bounds h
  exact ⟨by have := this.1; simp at this; omega, by have := this.2; simp at this; omega⟩

/-- what Cut hands on, and what is parsed as the denominator -/
theorem cut_both (s : ByteArray) (hs : s.size ≤ 140737488355328) : ∃ (c1 c2 den : ByteArray) (fl : Bool), c1.size ≤ 140737488355328 ∧ den.size ≤ 140737488355328 ∧ ((fl = true ∧ den = c2) ∨ (fl = false ∧ den = ⟨#[49]⟩)) ∧
    (∀ w, Calls Tryd.prog 28 #[.string s, .string ⟨#[47]⟩] w fun e w' => e = .returned (.tuple #[.string c1, .string c2, .bool fl]) ∧ Gr w w') ∧
    ((indexByte s.data.toList 47 = -1 ∧ c1 = s ∧ den = ⟨#[49]⟩) ∨ ∃ k : Nat, indexByte s.data.toList 47 = k ∧ k < s.size ∧ c1 = s.extract 0 k ∧ den = s.extract (k + 1) s.size) := by
  rcases index_bound s.data.toList 47 with h | ⟨k, h, hk⟩
  · exact ⟨s, ⟨#[]⟩, ⟨#[49]⟩, false, hs, by decide, .inr ⟨rfl, rfl⟩, fun w => cut_no s h w, .inl ⟨h, rfl, rfl⟩⟩
  · rw [ba_len] at hk
    exact ⟨s.extract 0 k, s.extract (k + 1) s.size, s.extract (k + 1) s.size, true, ex_size s _ _ hs, ex_size s _ _ hs, .inl ⟨rfl, rfl⟩, fun w => cut_yes s k hk hs h w, .inr ⟨k, h, hk, rfl, rfl⟩⟩

theorem parse_yes (s : ByteArray) (n d : Int) (w : World) (hT : Tabs w) (hs : s.size ≤ 140737488355328) (h : IsFr s n d) :
    Calls Tryd.prog 13 #[.string s] w fun e w' => e = .returned (.tuple #[.agg #[.int .i64 n, .int .i64 d], .int .i64 0]) ∧ Gr w w' := by
  obtain ⟨hv, hn, hd, hl⟩ := h
  obtain ⟨c1, c2, den, fl, z1, z2, hden, HC, hcut⟩ := cut_both s hs
  have HV := fun w => valid_any n d w hn hd
  rw [hv] at HV
  have HF := fun w hT => format_any n d w hT hn hd
  have ht : (⟨(fmtV n d).toArray⟩ : ByteArray) = s := by
    unfold fmtV
    rw [hv, if_pos rfl, ← hl]
  rw [ht] at HF
  have key : c1.data.toList = itoa n ∧ den.data.toList = itoa d := by
    rw [hl] at hcut
    rcases fmt_split n d with ⟨e1, f1, i1⟩ | ⟨e1, f1, i1⟩
    · rcases hcut with ⟨_, rfl, rfl⟩ | ⟨k, hk, _⟩
      · exact ⟨by rw [hl, f1], by rw [e1]; decide +kernel⟩
      · rw [i1] at hk; omega
    · rcases hcut with ⟨hk, _⟩ | ⟨k, hk, hk2, rfl, rfl⟩
      · rw [i1] at hk; omega
      · obtain rfl : k = (itoa n).length := by rw [i1] at hk; omega
        have hsz : s.size = (itoa n).length + 1 + (itoa d).length := by
          rw [← ba_len, hl, f1]; simp; omega
        refine ⟨?_, ?_⟩
        · rw [ex_list, hl, f1, List.drop_zero, Nat.sub_zero, List.take_left]
        · rw [ex_list, hl, f1, List.drop_append, List.drop_of_length_le (by omega), List.nil_append, show (itoa n).length + 1 - (itoa n).length = 1 by omega, List.drop_succ_cons, List.drop_zero, List.take_of_length_le (by omega)]
  exact parse_core s c1 c2 den s fl n d n d 0 w hT hden HC (.inr ⟨fun w => pint_ok c1 n w z1 (by rw [key.1]; exact parse_itoa n hn.1 hn.2), .inr ⟨fun w => pint_ok den d w z2 (by rw [key.2]; exact parse_itoa d hd.1 hd.2), .inr ⟨HV, HF, .inr ⟨rfl, rfl, rfl, rfl⟩⟩⟩⟩)

theorem parse_no (s : ByteArray) (w : World) (hT : Tabs w) (hs : s.size ≤ 140737488355328) (h : ∀ n d, ¬ IsFr s n d) :
    Calls Tryd.prog 13 #[.string s] w fun e w' => e = .returned (.tuple #[.agg #[.int .i64 0, .int .i64 0], .int .i64 3]) ∧ Gr w w' := by
  obtain ⟨c1, c2, den, fl, z1, z2, hden, HC, hcut⟩ := cut_both s hs
  have bad : ∀ (x : ByteArray), x.size ≤ 140737488355328 → (∃ v, parseIntB 64 x.data.toList = .ok v) ∨ (∀ v, parseIntB 64 x.data.toList ≠ .ok v) := fun x _ => by
    cases hp : parseIntB 64 x.data.toList with
    | ok v => exact .inl ⟨v, rfl⟩
    | «syntax» => exact .inr fun v => by simp
    | range => exact .inr fun v => by simp
  rcases bad c1 z1 with ⟨v1, e1⟩ | e1
  · rcases bad den z2 with ⟨v2, e2⟩ | e2
    · have i1 := pb_i64 e1
      have i2 := pb_i64 e2
      have HV := fun w => valid_any v1 v2 w i1 i2
      cases hv : vB v1 v2
      · rw [hv] at HV
        exact parse_core s c1 c2 den s fl v1 v2 0 0 3 w hT hden HC (.inr ⟨fun w => pint_ok c1 v1 w z1 e1, .inr ⟨fun w => pint_ok den v2 w z2 e2, .inl ⟨HV, rfl, rfl, rfl⟩⟩⟩)
      · rw [hv] at HV
        have HF := fun w hT => format_any v1 v2 w hT i1 i2
        refine parse_core s c1 c2 den _ fl v1 v2 0 0 3 w hT hden HC (.inr ⟨fun w => pint_ok c1 v1 w z1 e1, .inr ⟨fun w => pint_ok den v2 w z2 e2, .inr ⟨HV, HF, .inl ⟨neq_list ?_, rfl, rfl, rfl⟩⟩⟩⟩)
        intro he
        refine h v1 v2 ⟨hv, i1, i2, ?_⟩
        rw [← he]
        unfold fmtV
        rw [hv, if_pos rfl]
    · exact parse_core s c1 c2 den s fl v1 0 0 0 3 w hT hden HC (.inr ⟨fun w => pint_ok c1 v1 w z1 e1, .inl ⟨fun w hT => pint_bad den w hT z2 e2, rfl, rfl, rfl⟩⟩)
  · exact parse_core s c1 c2 den s fl 0 0 0 0 3 w hT hden HC (.inl ⟨fun w hT => pint_bad c1 w hT z1 e1, rfl, rfl, rfl⟩)

theorem no_byte {s : ByteArray} {k : Nat} (h : k < s.size) : s.data.toList[k]? = some s[k] := by
  rw [List.getElem?_eq_getElem (by simpa using h)]
  rfl
theorem itoa_dec {d : Int} (h : 0 ≤ d) : itoa d = decDigits d.natAbs := by
  unfold itoa
  rw [if_neg (by omega)]
  congr 1
  omega
theorem rparse_yes (s : ByteArray) (n d : Int) (w : World) (hs : s.size ≤ 140737488355328) (h : IsFr s n d) :
    Calls Tryd.prog 15 #[.string s] w fun e w' => e = .returned (.tuple #[.agg #[.int .i64 n, .int .i64 d], .int .i64 0]) ∧ Gr w w' := by
  obtain ⟨hv, hn, hd, hl⟩ := h
  obtain ⟨d1, n1, _⟩ := vB_inv hv
  have hn2 := hn.2
  have hd2 := hd.2
  have HF := fun w => rformat_any n d w hn hd
  have ht : (⟨(fmtV n d).toArray⟩ : ByteArray) = s := by
    unfold fmtV
    rw [hv, if_pos rfl, ← hl]
  rw [ht] at HF
  -- the parts of the text
  obtain ⟨p, i, hp, hi, hlen⟩ : ∃ (p : List UInt8) (i : Nat), itoa n = p ++ decDigits n.natAbs ∧ p.length = i ∧ ((n < 0 ∧ p = [45] ∧ i = 1) ∨ (0 ≤ n ∧ p = [] ∧ i = 0)) := by
    by_cases hneg : n < 0
    · refine ⟨[45], 1, ?_, rfl, .inl ⟨hneg, rfl, rfl⟩⟩
      unfold itoa
      rw [if_pos hneg]
      rfl
    · exact ⟨[], 0, by rw [List.nil_append]; exact itoa_dec (by omega), rfl, .inr ⟨by omega, rfl, rfl⟩⟩
  obtain ⟨t, htl, htc⟩ : ∃ t : List UInt8, s.data.toList = p ++ (decDigits n.natAbs ++ t) ∧ ((d = 1 ∧ t = []) ∨ (d ≠ 1 ∧ t = 47 :: decDigits d.natAbs)) := by
    rw [hl]
    unfold fmtL
    rw [hp]
    by_cases h1 : d = 1
    · exact ⟨[], by rw [if_pos h1]; simp, .inl ⟨h1, rfl⟩⟩
    · exact ⟨47 :: decDigits d.natAbs, by rw [if_neg h1, itoa_dec (by omega)]; simp, .inr ⟨h1, rfl⟩⟩
  have hu : n.natAbs ≤ 9223372036854775807 := by omega
  have hdu : d.natAbs ≤ 9223372036854775807 := by omega
  have hsz : s.size = i + ((decDigits n.natAbs).length + t.length) := by
    rw [← ba_len, htl]; simp; omega
  have hpos : 0 < (decDigits n.natAbs).length := by rw [decDigits_length]; exact nDigits_pos _
  have R1 : numF 19 0 0 (s.data.toList.drop i) = some (n.natAbs, (decDigits n.natAbs).length) := by
    have hdrop : s.data.toList.drop i = decDigits n.natAbs ++ t := by
      rw [htl, List.drop_append, ← hi, List.drop_of_length_le (Nat.le_refl _), Nat.sub_self]
      rfl
    have := numF_digits (decDigits n.natAbs) 19 0 0 t (dec_digits _) (dec_short _ hu) (by rw [dval_dec]; exact hu) (fun c r e => by
      rcases htc with ⟨_, rfl⟩ | ⟨_, rfl⟩
      · cases e
      · injection e with e1 _
        subst e1
        unfold isD
        decide)
    rw [hdrop, this, dval_dec, Nat.zero_add]
  have HN := fun w => number_any s i w hs (by omega)
  rw [R1] at HN
  have hb : (((s[0].toNat : Int) == 45) = true ∧ (i : Int) = 1 ∧ n = -(n.natAbs : Int)) ∨ (((s[0].toNat : Int) == 45) = false ∧ (i : Int) = 0 ∧ n = (n.natAbs : Int)) := by
    have h0 := no_byte (s := s) (k := 0) (by omega)
    rw [htl] at h0
    rcases hlen with ⟨x, rfl, rfl⟩ | ⟨x, rfl, rfl⟩
    · left
      simp at h0
      exact ⟨by rw [← h0]; rfl, rfl, by omega⟩
    · right
      obtain ⟨c, r, e, hc, _⟩ := dec_cons n.natAbs
      rw [e] at h0
      simp at h0
      unfold isD at hc
      refine ⟨?_, rfl, by omega⟩
      rw [← h0]
      simp
      omega
  have hk : i + (decDigits n.natAbs).length ≤ s.size := by omega
  refine rparse_core s s (i + (decDigits n.natAbs).length) i n.natAbs d (s.size : Int) n n d 0 w (by omega) hs (by omega) (by omega) hk hb HN ?_ HF (.inr ⟨rfl, rfl, rfl, rfl⟩)
  rcases htc with ⟨e1, rfl⟩ | ⟨e1, rfl⟩
  · exact .inr (.inl ⟨by simp at hsz; omega, e1⟩)
  · left
    simp only [List.length_cons] at hsz
    have hlt : i + (decDigits n.natAbs).length < s.size := by omega
    refine ⟨hlt, ?_, fun w => ?_⟩
    · have hbk := no_byte hlt
      rw [htl, List.getElem?_append_right (by omega), List.getElem?_append_right (by omega), hi, show i + (decDigits n.natAbs).length - i - (decDigits n.natAbs).length = 0 by omega] at hbk
      simp at hbk
      rw [← hbk]
      rfl
    · have hdrop : s.data.toList.drop (i + (decDigits n.natAbs).length + 1) = decDigits d.natAbs ++ [] := by
        rw [htl, List.append_nil, ← List.append_assoc, List.drop_append, List.drop_of_length_le (by simp; omega), List.nil_append, List.length_append, hi, show i + (decDigits n.natAbs).length + 1 - (i + (decDigits n.natAbs).length) = 1 by omega]
        rfl
      have R2 : numF 19 0 0 (s.data.toList.drop (i + (decDigits n.natAbs).length + 1)) = some (d.natAbs, (decDigits d.natAbs).length) := by
        rw [hdrop, numF_digits (decDigits d.natAbs) 19 0 0 [] (dec_digits _) (dec_short _ hdu) (by rw [dval_dec]; exact hdu) (fun c r e => by cases e), dval_dec, Nat.zero_add]
      have := number_any s (i + (decDigits n.natAbs).length + 1) w hs (by omega)
      rw [R2] at this
      have e1 : nuN (i + (decDigits n.natAbs).length + 1) (some (d.natAbs, (decDigits d.natAbs).length)) = d := by
        show ((d.natAbs : Nat) : Int) = d
        omega
      have e2 : nuK (i + (decDigits n.natAbs).length + 1) (some (d.natAbs, (decDigits d.natAbs).length)) = s.size := by
        show (((i + (decDigits n.natAbs).length + 1 + (decDigits d.natAbs).length : Nat)) : Int) = s.size
        omega
      rw [e1, e2] at this
      exact this
end Go.Proofs.YtclfiaemjdflbaaDoor
