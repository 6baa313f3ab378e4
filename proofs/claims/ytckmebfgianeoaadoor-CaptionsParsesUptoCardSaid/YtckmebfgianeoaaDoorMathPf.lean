/-
  Format of both packages as one value; what Parse makes of it; how many captions an argument of bounded bulk has.
  Conditions: up to 10^10 captions, for Parse up to 10^7.
-/
import Derived.Test.YtckmebfgianeoaaDoorWalkPs
import Derived.Test.YtckmebfgianeoaaDoorWalkRf
namespace Go.Proofs.YtckmebfgianeoaaDoor
open Go.RowKit Go.Lib
set_option linter.unusedSimpArgs false
set_option linter.unusedVariables false

def foB (num den : Int) (cs : List Cu) : Bool := vCues cs && suB num den
def foS (num den : Int) (cs : List Cu) : List UInt8 := if foB num den cs then fmtSS num den cs else []
def foE (num den : Int) (cs : List Cu) : Int := if foB num den cs then fmtEE num den cs else 1

theorem cformat_any (v : Value) (cs : List Cu) (num den : Int) (w : World) (hC : Cues w v cs) (hn : I64 num) (hd : I64 den) (hT : Pow w) (hcn : cs.length ≤ 10000000000) :
    Calls Tryd.prog 27 #[v, .agg #[.int .i64 num, .int .i64 den]] w fun e w' => e = .returned (.tuple #[.string ⟨(foS num den cs).toArray⟩, .int .i64 (foE num den cs)]) ∧ Gr w w' := by
  unfold foS foE foB
  by_cases h : vCues cs = true ∧ suB num den = true
  · rw [h.1, h.2]
    simp only [Bool.and_self, if_true]
    first
    | exact format_main v cs num den w hC hn hd hT h.1 h.2 (by omega)
    | exact format_main v cs num den w hC hn hd h.1 h.2 (by omega)
  · have hb : (vCues cs && suB num den) = false := by rw [← Bool.not_eq_true, Bool.and_eq_true]; exact h
    rw [hb]
    exact format_no v cs num den w hC hn hd h
theorem rformat_any (v : Value) (cs : List Cu) (num den : Int) (w : World) (hC : Cues w v cs) (hn : I64 num) (hd : I64 den) (hT : Pow w) (hcn : cs.length ≤ 10000000000) :
    Calls Tryd.prog 28 #[v, .agg #[.int .i64 num, .int .i64 den]] w fun e w' => e = .returned (.tuple #[.string ⟨(foS num den cs).toArray⟩, .int .i64 (foE num den cs)]) ∧ Gr w w' := by
  unfold foS foE foB
  by_cases h : vCues cs = true ∧ suB num den = true
  · rw [h.1, h.2]
    simp only [Bool.and_self, if_true]
    first
    | exact rformat_main v cs num den w hC hn hd hT h.1 h.2 (by omega)
    | exact rformat_main v cs num den w hC hn hd h.1 h.2 (by omega)
  · have hb : (vCues cs && suB num den) = false := by rw [← Bool.not_eq_true, Bool.and_eq_true]; exact h
    rw [hb]
    exact rformat_no v cs num den w hC hn hd h

theorem foE_zero {num den : Int} {cs : List Cu} (h : foE num den cs = 0) : vCues cs = true ∧ suB num den = true ∧ fmtG num den cs = true ∧ foS num den cs = fmtT num den 0 cs := by
  unfold foE at h
  split at h
  · rename_i hb
    unfold fmtEE at h
    split at h
    · rename_i hg
      have hb2 := hb
      unfold foB at hb2
      rw [Bool.and_eq_true] at hb2
      refine ⟨hb2.1, hb2.2, hg, ?_⟩
      unfold foS fmtSS
      rw [if_pos hb, if_pos hg]
    · cases h
  · cases h
theorem IsF.unique {num den : Int} {S : List UInt8} {x y : List Cu} (hs : suB num den = true) (hx : IsF num den S x) (hy : IsF num den S y) : x.map cAbs = y.map cAbs := by
  have h1 := paP_fmt hs x 0 (x.length + y.length) hx.1 hx.2.1 (by omega)
  have h2 := paP_fmt hs y 0 (x.length + y.length) hy.1 hy.2.1 (by omega)
  rw [hx.2.2] at h1
  rw [hy.2.2, h1] at h2
  injection h2
theorem cueT_len {num den : Int} {c : Cu} (hs : suB num den = true) (hv : vCu c = true) (i : Nat) (hi : (i : Int) < 9223372036854775807) : (cueT num den i c).length ≤ 400 := by
  have hb := vCu_bounds hv
  have h1 := itoa_short (n := (i : Int) + 1) (by omega) (by omega)
  have h2 := ftS_len (n := c.f) (by omega) (by omega) hs
  have h3 := ftS_len (n := c.t) (by omega) (by omega) hs
  have h4 : (linT c.ss).length ≤ 65 * c.ss.length := linT_len _ (fun s hm => (vLine_size (List.all_eq_true.1 hb.2.2.2.2.2 s hm)).2)
  have h5 : c.ss.length ≤ 4 := hb.2.2.2.2.1
  unfold cueT
  simp only [List.length_append, List.length_cons, List.length_nil]
  omega
theorem fmtT_len {num den : Int} (hs : suB num den = true) {N : Nat} (hN : (N : Int) < 9223372036854775807) (cs : List Cu) : ∀ i : Nat, vCues cs = true → i + cs.length ≤ N → (fmtT num den i cs).length ≤ 400 * cs.length := by
  induction cs with
  | nil => intro i _ _; exact Nat.zero_le _
  | cons c cs ih =>
    intro i hv hi
    have hv2 : (vCu c && vCues cs) = true := hv
    rw [Bool.and_eq_true] at hv2
    rw [List.length_cons] at hi
    have h1 := cueT_len hs hv2.1 i (by omega)
    have h2 := ih (i + 1) hv2.2 (by omega)
    rw [fmtT, List.length_append, List.length_cons]
    omega
/-- Parse of what Format hands back -/
theorem parse_back (cs : List Cu) (num den : Int) (w : World) (hn : I64 num) (hd : I64 den) (hM : Mx w) (hT : Pow w) (hE : foE num den cs = 0) (hcn : cs.length ≤ 10000000) (hok : ∀ c ∈ cs, CuOk c) :
    Calls Tryd.prog 29 #[.string ⟨(foS num den cs).toArray⟩, .agg #[.int .i64 num, .int .i64 den]] w fun e w' => ∃ lv cs2, e = .returned (.tuple #[lv, .int .i64 0]) ∧ Gr w w' ∧ Cues w' lv cs2 ∧ cs2.map cAbs = cs.map cAbs := by
  obtain ⟨hv, hs, hg, he⟩ := foE_zero hE
  have hl := fmtT_len hs (N := 10000000) (by decide) cs 0 hv (by omega)
  refine (parse_any ⟨(foS num den cs).toArray⟩ num den w hn hd hs (by rw [he]; show (fmtT num den 0 cs).length < _; omega) hM hT).mono ?_
  rintro e w' ⟨v, rfl, hg2, h | ⟨lv, cs2, rfl, hr, hf⟩⟩
  · exact absurd (⟨hv, hg, by rw [he]⟩ : IsF num den _ cs) (h.2 cs)
  · have hu : cs2.map cAbs = cs.map cAbs := IsF.unique hs hf ⟨hv, hg, by rw [he]⟩
    refine ⟨lv, cs2, rfl, hg2, ⟨hr, ?_, ?_⟩, hu⟩
    · intro c hc
      have : cAbs c ∈ cs.map cAbs := by rw [← hu]; exact List.mem_map.2 ⟨c, hc, rfl⟩
      obtain ⟨d, hd, hcd⟩ := List.mem_map.1 this
      have o := hok d hd
      unfold cAbs at hcd
      simp only [Prod.mk.injEq] at hcd
      obtain ⟨e1, e2, e3⟩ := hcd
      exact ⟨by rw [← e1]; exact o.f1, by rw [← e1]; exact o.f2, by rw [← e2]; exact o.t1, by rw [← e2]; exact o.t2, by rw [← e3]; exact o.n, by rw [← e3]; exact o.s⟩
    · have := congrArg List.length hu
      rw [List.length_map, List.length_map] at this
      omega
end Go.Proofs.YtckmebfgianeoaaDoor
