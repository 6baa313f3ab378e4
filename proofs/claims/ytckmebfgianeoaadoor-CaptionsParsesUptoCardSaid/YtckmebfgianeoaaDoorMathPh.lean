/-
  What both functions Parse hand back, in one word: their numbers and their captions are the same.
  Conditions: the text has fewer than 4,294,967,281 bytes.
-/
import Derived.Test.YtckmebfgianeoaaDoorWalkPq
namespace Go.Proofs.YtckmebfgianeoaaDoor
open Go.RowKit Go.Lib
set_option linter.unusedVariables false

def PsR (num den : Int) (S : List UInt8) (f : Int) (cs : List Cu) : Prop :=
  (suB num den = false ∧ f = 1 ∧ cs = []) ∨ (suB num den = true ∧ f = 3 ∧ cs = [] ∧ ∀ X, ¬ IsF num den S X) ∨ (suB num den = true ∧ f = 0 ∧ IsF num den S cs)
theorem PsR.same {num den : Int} {S : List UInt8} {f g : Int} {cs ds : List Cu} (h : PsR num den S f cs) (h' : PsR num den S g ds) : f = g ∧ cs.map cAbs = ds.map cAbs := by
  rcases h with ⟨a, b, c⟩ | ⟨a, b, c, d⟩ | ⟨a, b, c⟩ <;> rcases h' with ⟨a', b', c'⟩ | ⟨a', b', c', d'⟩ | ⟨a', b', c'⟩
  · exact ⟨by omega, by rw [c, c']⟩
  · rw [a] at a'; cases a'
  · rw [a] at a'; cases a'
  · rw [a] at a'; cases a'
  · exact ⟨by omega, by rw [c, c']⟩
  · exact absurd c' (d _)
  · rw [a] at a'; cases a'
  · exact absurd c (d' _)
  · exact ⟨by omega, IsF.unique a c c'⟩
theorem PsR.fmt {num den : Int} {S : List UInt8} {f : Int} {cs : List Cu} (h : PsR num den S f cs) (hf : f = 0) : suB num den = true ∧ IsF num den S cs := by
  rcases h with ⟨a, b, c⟩ | ⟨a, b, c, d⟩ | ⟨a, b, c⟩
  · omega
  · omega
  · exact ⟨a, c⟩
theorem cueT_pos (num den : Int) (i : Nat) (c : Cu) : 1 ≤ (cueT num den i c).length := by
  unfold cueT
  simp only [List.length_append, List.length_cons, List.length_nil]
  omega
theorem fmtT_ge (num den : Int) : ∀ (cs : List Cu) (i : Nat), cs.length ≤ (fmtT num den i cs).length
  | [], _ => Nat.zero_le _
  | c :: r, i => by
    have h1 := cueT_pos num den i c
    have h2 := fmtT_ge num den r (i + 1)
    rw [fmtT, List.length_append, List.length_cons]
    omega
theorem vCu_ok {c : Cu} (h : vCu c = true) : CuOk c := by
  have hb := vCu_bounds h
  refine ⟨by omega, by omega, by omega, by omega, by omega, fun s hs => ?_⟩
  have := (vLine_size (List.all_eq_true.1 hb.2.2.2.2.2 s hs)).2
  omega
theorem PaR.psR {num den : Int} {S : List UInt8} {w : World} {v : Value} (hs : suB num den = true) (hz : S.length < 4294967281) (h : PaR num den S w v) : ∃ lv cs f, v = .tuple #[lv, .int .i64 f] ∧ Cues w lv cs ∧ Hid (PsR num den S f cs) ∧ cs.length < 4294967281 := by
  rcases h with ⟨rfl, h⟩ | ⟨lv, cs, rfl, hc, hf⟩
  · exact ⟨_, [], 3, rfl, ⟨CuesR.nil w, fun c hc => (by cases hc), by simp⟩, Lib.hid (.inr (.inl ⟨hs, rfl, rfl, h⟩)), by simp⟩
  · have hl := fmtT_ge num den cs 0
    rw [hf.2.2] at hl
    exact ⟨lv, cs, 0, rfl, ⟨hc, fun c hc => vCu_ok (vCues_mem hf.1 hc), by omega⟩, Lib.hid (.inr (.inr ⟨hs, rfl, hf⟩)), by omega⟩
theorem cparse_all (s : ByteArray) (num den : Int) (w : World) (hn : I64 num) (hd : I64 den) (hz : s.size < 4294967281) (hM : Mx w) (hT : Pow w) :
    Calls Tryd.prog 29 #[.string s, .agg #[.int .i64 num, .int .i64 den]] w fun e w' => ∃ lv cs f, e = .returned (.tuple #[lv, .int .i64 f]) ∧ Gr w w' ∧ Cues w' lv cs ∧ Hid (PsR num den s.data.toList f cs) ∧ cs.length < 4294967281 := by
  cases hs : suB num den with
  | false =>
    refine (parse_no s num den w hn hd hs).mono ?_
    rintro e w' ⟨rfl, hg⟩
    exact ⟨_, [], 1, rfl, hg, ⟨CuesR.nil w', fun c hc => (by cases hc), by simp⟩, Lib.hid (.inl ⟨hs, rfl, rfl⟩), by simp⟩
  | true =>
    refine (parse_any s num den w hn hd hs hz hM hT).mono ?_
    rintro e w' ⟨v, rfl, hg, hP⟩
    obtain ⟨lv, cs, f, rfl, h1, h2, h3⟩ := hP.psR hs (by rw [ba_len]; exact hz)
    exact ⟨lv, cs, f, rfl, hg, h1, h2, h3⟩
theorem rparse_all (s : ByteArray) (num den : Int) (w : World) (hn : I64 num) (hd : I64 den) (hz : s.size < 4294967281) (hM : True) (hT : Pow w) :
    Calls Tryd.prog 30 #[.string s, .agg #[.int .i64 num, .int .i64 den]] w fun e w' => ∃ lv cs f, e = .returned (.tuple #[lv, .int .i64 f]) ∧ Gr w w' ∧ Cues w' lv cs ∧ Hid (PsR num den s.data.toList f cs) ∧ cs.length < 4294967281 := by
  cases hs : suB num den with
  | false =>
    refine (rparse_no s num den w hn hd hs).mono ?_
    rintro e w' ⟨rfl, hg⟩
    exact ⟨_, [], 1, rfl, hg, ⟨CuesR.nil w', fun c hc => (by cases hc), by simp⟩, Lib.hid (.inl ⟨hs, rfl, rfl⟩), by simp⟩
  | true =>
    refine (rparse_any s num den w hn hd hs hz hT).mono ?_
    rintro e w' ⟨v, rfl, hg, hP⟩
    obtain ⟨lv, cs, f, rfl, h1, h2, h3⟩ := hP.psR hs (by rw [ba_len]; exact hz)
    exact ⟨lv, cs, f, rfl, hg, h1, h2, h3⟩
/-- Format of what Parse found -/
theorem cformat_back (v : Value) (cs : List Cu) (num den : Int) (x : ByteArray) (w : World) (hC : Cues w v cs) (hn : I64 num) (hd : I64 den) (hT : Pow w) (hcn : cs.length < 4294967281) (hs : suB num den = true) (h : IsF num den x.data.toList cs) :
    Calls Tryd.prog 27 #[v, .agg #[.int .i64 num, .int .i64 den]] w fun e w' => e = .returned (.tuple #[.string x, .int .i64 0]) ∧ Gr w w' := by
  have hb : foB num den cs = true := by unfold foB; rw [h.1, hs]; rfl
  have h1 : foS num den cs = x.data.toList := by unfold foS fmtSS; rw [if_pos hb, if_pos h.2.1]; exact h.2.2
  have h2 : foE num den cs = 0 := by unfold foE fmtEE; rw [if_pos hb, if_pos h.2.1]
  have := cformat_any v cs num den w hC hn hd hT (by omega)
  rw [h1, h2, ba_mk] at this
  exact this
/-- the law's own captions have a text at 30000/1001 -/
theorem made_zero {cs : List Cu} (h : Made cs) : foE 30000 1001 cs = 0 := by
  have hs : suB 30000 1001 = true := by decide +kernel
  have hb : foB 30000 1001 cs = true := by unfold foB; rw [h.v, hs]; rfl
  have hg : fmtG 30000 1001 cs = true := by
    unfold fmtG
    rw [List.all_eq_true]
    intro c hc
    have h1 := vCu_bounds (vCues_mem h.v hc)
    have h2 := h.small c hc
    unfold cueOk msQ
    rw [Bool.and_eq_true]
    exact ⟨decide_eq_true (by omega), decide_eq_true (by omega)⟩
  unfold foE fmtEE
  rw [if_pos hb, if_pos hg]
theorem made_len {cs : List Cu} (h : Made cs) : (foS 30000 1001 cs).length ≤ 3200 := by
  have hs : suB 30000 1001 = true := by decide +kernel
  obtain ⟨hv, _, hg, he⟩ := foE_zero (made_zero h)
  have := fmtT_len hs (N := 10000000) (by decide) cs 0 hv (by have := h.n; omega)
  have := h.n
  rw [he]
  omega
end Go.Proofs.YtckmebfgianeoaaDoor
