
/-
  Contract of Format of package captions.
  Conditions: the list lies in memory; it has at most three hundred thousand million captions.
-/
import Derived.Test.YthadhmhbbfjomaaGreatDoorWalkFt
import Derived.Test.YthadhmhbbfjomaaGreatDoorWalkBd
import Derived.Test.YthadhmhbbfjomaaGreatDoorWalkCu
import Derived.Test.YthadhmhbbfjomaaGreatDoorWalkRp
import Derived.Test.YthadhmhbbfjomaaGreatDoorMathP
namespace Go.Proofs.YthadhmhbbfjomaaGreatDoor
open Go.RowKit Go.Lib
set_option linter.unusedSimpArgs false
set_option linter.unusedVariables false

/-- a caption's lines as text -/
def linT (ss : List ByteArray) : List UInt8 := ss.flatMap fun s => s.data.toList ++ [10]
/-- a caption as text -/
def cueT (num den : Int) (i : Nat) (c : Cu) : List UInt8 := itoa (i + 1) ++ 10 :: (ftS c.f num den ++ 32 :: 45 :: 45 :: 62 :: 32 :: (ftS c.t num den ++ 10 :: (linT c.ss ++ [10])))
def cueOk (num den : Int) (c : Cu) : Bool := decide (msQ c.f num den < 360000000) && decide (msQ c.t num den < 360000000)
def fmtT (num den : Int) : Nat → List Cu → List UInt8
  | _, [] => []
  | i, c :: r => cueT num den i c ++ fmtT num den (i + 1) r
def fmtG (num den : Int) (cs : List Cu) : Bool := cs.all (cueOk num den)
def fmtSS (num den : Int) (cs : List Cu) : List UInt8 := if fmtG num den cs then fmtT num den 0 cs else []
def fmtEE (num den : Int) (cs : List Cu) : Int := if fmtG num den cs then 0 else 2

set_option maxRecDepth 20000 in
set_option maxHeartbeats 4000000 in
theorem format_no (v : Value) (cs : List Cu) (num den : Int) (w : World) (hC : Cues w v cs) (hn : I64 num) (hd : I64 den) (h : ¬ (vCues cs = true ∧ suB num den = true)) :
    Calls Tryz.prog 21 #[v, .agg #[.int .i64 num, .int .i64 den]] w fun e w' => e = .returned (.tuple #[.string ⟨#[]⟩, .int .i64 1]) ∧ Gr w w' := by
  obtain ⟨p, cap, rfl, hsh⟩ := hC.at_.shape
  clear hsh
  have hmf := hmf_any Tryz.prog
  have hL : Hid (∃ bv sv : Bool, (∀ w', Gr w w' → Calls Tryz.prog 19 #[.slice p cs.length cap] w' fun e w'' => e = .returned (.bool bv) ∧ Gr w' w'') ∧ (∀ w', Calls Tryz.prog 38 #[.agg #[.int .i64 num, .int .i64 den]] w' fun e w'' => e = .returned (.bool sv) ∧ Gr w' w'') ∧ (bv = false ∨ (bv = true ∧ sv = false))) := by
    refine ⟨vCues cs, suB num den, fun w' hg => cvalid_any _ _ w' (hC.gr hg), fun w' => suitable_any num den w' hn hd, ?_⟩
    cases hv : vCues cs with
    | false => exact .inl rfl
    | true =>
      refine .inr ⟨rfl, ?_⟩
      cases hs : suB num den with
      | false => rfl
      | true => exact absurd ⟨hv, hs⟩ h
  clear hC h
  obtain ⟨bv, sv, HV, HS, h⟩ := hL.out
  have HV := Lib.hid HV
  have HS := Lib.hid HS
  clear hL
  have fin : ∀ w1 : World, Gr (((w.alloc (.cells #[.int .i64 num, .int .i64 den] 27)).alloc (.cells #[.string ⟨#[]⟩] 9)).alloc (.cells #[.int .i64 0] 41)) w1 → Cel w1 w.heap.size [.int .i64 num, .int .i64 den] ∧ Cel w1 (w.heap.size + 1) [.string ⟨#[]⟩] ∧ Cel w1 (w.heap.size + 2) [.int .i64 0] := by
    intro w1 hg1
    have k0 := ((Cel.new w #[.int .i64 num, .int .i64 den] 27).alloc (.cells #[.string ⟨#[]⟩] 9)).alloc (.cells #[.int .i64 0] 41) |>.gr hg1
    have k1 := (Cel.new (w.alloc (.cells #[.int .i64 num, .int .i64 den] 27)) #[.string ⟨#[]⟩] 9).alloc (.cells #[.int .i64 0] 41) |>.gr hg1
    have k2 := (Cel.new ((w.alloc (.cells #[.int .i64 num, .int .i64 den] 27)).alloc (.cells #[.string ⟨#[]⟩] 9)) #[.int .i64 0] 41).gr hg1
    simp at k0 k1 k2
    exact ⟨k0, k1, k2⟩
  have fin := Lib.hid fin
  rcases h with rfl | ⟨rfl, rfl⟩
  all_goals
    go_enter_defers Tryz.func21, Tryz.ntmps21
    go_wp2_with (first
      | (go_at_call 19; (with_reducible refine (HV.out _ ?_).mono ?_); (· exact (by repeat (first | with_reducible exact Gr.refl _ | with_reducible assumption | refine Gr.setCell ?_ (by first | omega | (simp; done) | (simp; omega)) _ | refine Gr.alloc ?_ _ | refine Gr.drew ?_ | refine Gr.drewN ?_ _ | refine Gr.trans ?_ (by with_reducible assumption)))); rintro e w1 ⟨rfl, hg1⟩; obtain ⟨k0, k1, k2⟩ := fin.out _ hg1; obtain ⟨x0, a0, a1, b0, b1⟩ := k0.two; obtain ⟨a2, b2⟩ := k1.one; obtain ⟨a3, b3⟩ := k2.one)
      | (go_at_call 38; (with_reducible refine (HS.out _).mono ?_); rintro e w2 ⟨rfl, hg2⟩; have k12 := k1.gr hg2; have k22 := k2.gr hg2; obtain ⟨a4, b4⟩ := k12.one; obtain ⟨a5, b5⟩ := k22.one))
    have hz := hg1.size
    simp at hz
    refine leaves_cons (f := 37) (args := #[.pointer (some ⟨w.heap.size + 1, 0, none⟩), .pointer (some ⟨w.heap.size + 2, 0, none⟩)]) (by simp) (by simp [go_sem]) ?_
    refine (formatD_idle _ _ _).mono ?_
    rintro e u' w'' ⟨rfl, rfl, rfl⟩
    first
    | (simp [Leaves, settle, results, Tryz.results21, go_sem, a2, a3]; done)
    | (simp [Leaves, settle, results, Tryz.results21, go_sem, a4, a5]; exact (by repeat (first | with_reducible exact Gr.refl _ | with_reducible assumption | refine Gr.setCell ?_ (by first | omega | (simp; done) | (simp; omega)) _ | refine Gr.alloc ?_ _ | refine Gr.drew ?_ | refine Gr.drewN ?_ _ | refine Gr.trans ?_ (by with_reducible assumption))))
    | (simp [Leaves, settle, results, Tryz.results21, go_sem, a2, a3]; exact (by repeat (first | with_reducible exact Gr.refl _ | with_reducible assumption | refine Gr.setCell ?_ (by first | omega | (simp; done) | (simp; omega)) _ | refine Gr.alloc ?_ _ | refine Gr.drew ?_ | refine Gr.drewN ?_ _ | refine Gr.trans ?_ (by with_reducible assumption))))

theorem linT_snoc (x : List ByteArray) (s : ByteArray) : linT (x ++ [s]) = linT x ++ (s.data.toList ++ [10]) := by unfold linT; rw [List.flatMap_append]; simp
theorem timeT_len (ms : Int) (h0 : 0 ≤ ms) (h1 : ms < 360000000) : (timeT ms).length = 12 := by
  unfold timeT
  have l1 := padL_len 2 (ms / 1000 / 3600) (by omega) (.inl ⟨rfl, by omega⟩)
  have l2 := padL_len 2 (ms / 1000 / 60 % 60) (by omega) (.inl ⟨rfl, by omega⟩)
  have l3 := padL_len 2 (ms / 1000 % 60) (by omega) (.inl ⟨rfl, by omega⟩)
  have l4 := padL_len 3 (ms % 1000) (by omega) (.inr ⟨rfl, by omega⟩)
  simp only [List.length_append, List.length_cons, l1, l2, l3, l4]
theorem ftS_len {n num den : Int} (h0 : 0 ≤ n) (h1 : n ≤ 2147483647) (hs : suB num den = true) : (ftS n num den).length ≤ 12 := by
  unfold ftS
  split
  · rename_i h
    rw [timeT_len _ (ms_bounds h0 h1 hs).2.2.1 h]
    omega
  · simp
theorem fmtG_no {num den : Int} {cs : List Cu} {c : Cu} (hc : c ∈ cs) (h : ¬ msQ c.f num den < 360000000 ∨ ¬ msQ c.t num den < 360000000) : fmtG num den cs = false := by
  cases hg : fmtG num den cs with
  | false => rfl
  | true =>
    have := List.all_eq_true.1 hg c hc
    unfold cueOk at this
    simp only [Bool.and_eq_true, decide_eq_true_eq] at this
    rcases h with h | h
    · exact absurd this.1 h
    · exact absurd this.2 h
theorem itoa_short {n : Int} (h0 : 0 ≤ n) (h1 : n ≤ 9223372036854775807) : (itoa n).length ≤ 20 := by
  unfold itoa
  rw [if_neg (by omega)]
  have := dec_short n.natAbs (by omega)
  have e : n.toNat = n.natAbs := by omega
  rw [e]
  omega
/-- the first two lines of a caption's text -/
def hdrT (a b c : List UInt8) : List UInt8 := a ++ 10 :: (b ++ 32 :: 45 :: 45 :: 62 :: 32 :: (c ++ [10]))
theorem hdr_eq (a b c : List UInt8) : (⟨a.toArray⟩ : ByteArray) ++ ⟨#[10]⟩ ++ ⟨b.toArray⟩ ++ ⟨#[32, 45, 45, 62, 32]⟩ ++ ⟨c.toArray⟩ ++ ⟨#[10]⟩ = ⟨(hdrT a b c).toArray⟩ := ba_ext (by simp [hdrT])
theorem hdr_len (a b c : List UInt8) : (hdrT a b c).length = a.length + b.length + c.length + 7 := by unfold hdrT; simp; omega
theorem ba_lsize (l : List UInt8) : (⟨l.toArray⟩ : ByteArray).size = l.length := rfl
theorem linT_len (l : List ByteArray) (h : ∀ s ∈ l, s.size ≤ 64) : (linT l).length ≤ 65 * l.length := by
  induction l with
  | nil => simp [linT]
  | cons s l ih =>
    have h1 := ih (fun x hx => h x (by simp [hx]))
    have h2 := h s (by simp)
    have e : linT (s :: l) = (s.data.toList ++ [10]) ++ linT l := rfl
    rw [e]
    simp only [List.length_append, List.length_cons, List.length_nil, ba_len]
    omega
theorem vLine_size {s : ByteArray} (h : vLine s = true) : 1 ≤ s.size ∧ s.size ≤ 64 := by
  unfold vLine at h
  simp only [Bool.and_eq_true, decide_eq_true_eq] at h
  exact h.1

set_option maxRecDepth 20000 in
set_option maxHeartbeats 16000000 in
theorem format_main (v : Value) (cs : List Cu) (num den : Int) (w : World) (hC : Cues w v cs) (hn : I64 num) (hd : I64 den) (hT : Pow w) (hv : vCues cs = true) (hs : suB num den = true) (hcn : cs.length ≤ 300000000000) :
    Calls Tryz.prog 21 #[v, .agg #[.int .i64 num, .int .i64 den]] w fun e w' => e = .returned (.tuple #[.string ⟨(fmtSS num den cs).toArray⟩, .int .i64 (fmtEE num den cs)]) ∧ Gr w w' := by
  obtain ⟨p, cap, rfl, hsh⟩ := hC.at_.shape
  have hsh := Lib.hid hsh
  have hmf := hmf_any Tryz.prog
  have HV : Hid (∀ w', Gr w w' → Calls Tryz.prog 19 #[.slice p cs.length cap] w' fun e w'' => e = .returned (.bool true) ∧ Gr w' w'') := fun w' hg => by rw [← hv]; exact cvalid_any _ _ w' (hC.gr hg)
  have HS : Hid (∀ w', Calls Tryz.prog 38 #[.agg #[.int .i64 num, .int .i64 den]] w' fun e w'' => e = .returned (.bool true) ∧ Gr w' w'') := fun w' => by rw [← hs]; exact suitable_any num den w' hn hd
  have fin : ∀ w1 : World, Gr (((w.alloc (.cells #[.int .i64 num, .int .i64 den] 27)).alloc (.cells #[.string ⟨#[]⟩] 9)).alloc (.cells #[.int .i64 0] 41)) w1 → Cel w1 w.heap.size [.int .i64 num, .int .i64 den] ∧ Cel w1 (w.heap.size + 1) [.string ⟨#[]⟩] ∧ Cel w1 (w.heap.size + 2) [.int .i64 0] := by
    intro w1 hg1
    have k0 := ((Cel.new w #[.int .i64 num, .int .i64 den] 27).alloc (.cells #[.string ⟨#[]⟩] 9)).alloc (.cells #[.int .i64 0] 41) |>.gr hg1
    have k1 := (Cel.new (w.alloc (.cells #[.int .i64 num, .int .i64 den] 27)) #[.string ⟨#[]⟩] 9).alloc (.cells #[.int .i64 0] 41) |>.gr hg1
    have k2 := (Cel.new ((w.alloc (.cells #[.int .i64 num, .int .i64 den] 27)).alloc (.cells #[.string ⟨#[]⟩] 9)) #[.int .i64 0] 41).gr hg1
    simp at k0 k1 k2
    exact ⟨k0, k1, k2⟩
  have fin := Lib.hid fin
  have hC := Lib.hid hC
  have hT := Lib.hid hT
  have hv := Lib.hid hv
  have hs := Lib.hid hs
  go_enter_defers Tryz.func21, Tryz.ntmps21
  go_wp2_with (first
    | (go_at_call 19; (with_reducible refine (HV.out _ ?_).mono ?_); (· exact (by repeat (first | with_reducible exact Gr.refl _ | with_reducible assumption | refine Gr.setCell ?_ (by first | omega | (simp; done) | (simp; omega)) _ | refine Gr.alloc ?_ _ | refine Gr.drew ?_ | refine Gr.drewN ?_ _ | refine Gr.trans ?_ (by with_reducible assumption)))); rintro e w1 ⟨rfl, hg1⟩; obtain ⟨k0, k1, k2⟩ := fin.out _ hg1; obtain ⟨x0, a0, a1, b0, b1⟩ := k0.two)
    | (go_at_call 38; (with_reducible refine (HS.out _).mono ?_); rintro e w2 ⟨rfl, hg2⟩))
  have hgw : Gr w w2 := (((((Gr.refl w).alloc _).alloc _).alloc _).trans hg1).trans hg2
  have k02 := k0.gr hg2
  have k12 := k1.gr hg2
  have k22 := k2.gr hg2
  have hl2 := k22.lt
  have hlb := Lb.new w2
  have hga : Gr w2 (w2.alloc (.cells #[.pointer none, .slice none 0 0] 95)) := (Gr.refl w2).alloc _
  have k03 := k02.gr hga
  have k13 := k12.gr hga
  have k23 := k22.gr hga
  have hgw3 := hgw.trans hga
  clear hga hg1 hg2 k0 k1 k2 k02 k12 k22 x0 a0 a1 b0 b1 hgw
  generalize w2.alloc (.cells #[.pointer none, .slice none 0 0] 95) = W3 at *
  generalize w2.heap.size = B at *
  go_loopw [25] (fun k wr => ∃ (kk : Nat) (acc : List UInt8), kk ≤ cs.length ∧ k = .int .i64 kk ∧ Gr w wr ∧ Lb wr B acc ∧ Cel wr w.heap.size [.int .i64 num, .int .i64 den] ∧ Cel wr (w.heap.size + 1) [.string ⟨#[]⟩] ∧ Cel wr (w.heap.size + 2) [.int .i64 0] ∧ Hid (acc ++ fmtT num den kk (cs.drop kk) = fmtT num den 0 cs ∧ (cs.take kk).all (cueOk num den) = true ∧ acc.length ≤ 400 * kk)) (fun k _ => cs.length - (RowKit.intOf k).toNat)
  case atStart => exact ⟨0, [], Nat.zero_le _, rfl, hgw3, hlb, k03, k13, k23, Lib.hid ⟨rfl, rfl, by simp⟩⟩
  case round =>
    obtain ⟨kk, acc, h3, rfl, hg, hB, k0, k1, k2, hst⟩ := hrel
    clear hgw3 hlb k03 k13 k23 HV HS fin
    obtain ⟨hcg, hfg⟩ := hg.cells
    have hBl := hB.lt
    by_cases c1 : kk < cs.length
    · have q6 : decide (kk < cs.length) = true := decide_eq_true c1
      rcases hsh.out with h | ⟨b1, o1, rfl, hb1, hc1⟩
      · omega
      have hc1 := hc1 kk c1
      have e0 := (hcg b1 _ hb1).trans hc1.1
      have e1 := (hcg b1 _ hb1).trans hc1.2.1
      have e2 := (hcg b1 _ hb1).trans hc1.2.2
      have hsa := hC.out.at_.2 _ (List.getElem_mem c1)
      have hvc := vCu_bounds (vCues_mem hv.out (List.getElem_mem c1))
      have hdk : Hid (cs.drop kk = cs[kk] :: cs.drop (kk + 1)) := List.drop_eq_getElem_cons c1
      have htk : Hid (cs.take (kk + 1) = cs.take kk ++ [cs[kk]]) := List.take_append_getElem c1 |>.symm
      have hmem : Hid (cs[kk] ∈ cs) := List.getElem_mem c1
      generalize cs[kk] = c at e0 e1 e2 hsa hvc hdk htk hmem
      obtain ⟨p2, cap2, hl2', hh2⟩ := hsa.shape
      have hh2 := Lib.hid hh2
      rw [hl2'] at e2
      clear hcg hfg hc1 hsa
      have HF1 : Hid (∀ w', Pow w' → Calls Tryz.prog 39 #[.int .i64 c.f, .agg #[.int .i64 num, .int .i64 den]] w' fun e w'' => e = .returned (.tuple #[.string ⟨(ftS c.f num den).toArray⟩, .int .i64 (ftE c.f num den)]) ∧ Gr w' w'') := fun w' hp => ft_any c.f num den w' hp (by omega) (by omega) hs.out
      have HF2 : Hid (∀ w', Pow w' → Calls Tryz.prog 39 #[.int .i64 c.t, .agg #[.int .i64 num, .int .i64 den]] w' fun e w'' => e = .returned (.tuple #[.string ⟨(ftS c.t num den).toArray⟩, .int .i64 (ftE c.t num den)]) ∧ Gr w' w'') := fun w' hp => ft_any c.t num den w' hp (by omega) (by omega) hs.out
      have hTr : Hid (Pow (wr.alloc (.cells #[.int .i64 c.f, .int .i64 c.t, .slice p2 c.ss.length cap2] 57))) := Pow.gr (hg.trans ((Gr.refl wr).alloc _)) hT.out
      have ka0 := k0.alloc (.cells #[.int .i64 c.f, .int .i64 c.t, .slice p2 c.ss.length cap2] 57)
      have ka1 := k1.alloc (.cells #[.int .i64 c.f, .int .i64 c.t, .slice p2 c.ss.length cap2] 57)
      have ka2 := k2.alloc (.cells #[.int .i64 c.f, .int .i64 c.t, .slice p2 c.ss.length cap2] 57)
      have kaC := Blk.new wr [.int .i64 c.f, .int .i64 c.t, .slice p2 c.ss.length cap2] 57
      obtain ⟨x0, a0, a1, b0, b1⟩ := k0.two
      have hgc : Gr w (wr.alloc (.cells #[.int .i64 c.f, .int .i64 c.t, .slice p2 c.ss.length cap2] 57)) := hg.alloc _
      have hBc := hB.gr ((Gr.refl wr).alloc (.cells #[.int .i64 c.f, .int .i64 c.t, .slice p2 c.ss.length cap2] 57))
      by_cases m1 : msQ c.f num den < 360000000
      · by_cases m2 : msQ c.t num den < 360000000
        · have hE1 : ftE c.f num den = 0 := by unfold ftE; rw [if_pos m1]
          have hE2 : ftE c.t num den = 0 := by unfold ftE; rw [if_pos m2]
          rw [hE1] at HF1
          rw [hE2] at HF2
          have hI : Hid (∀ w', Pow w' → Calls Tryz.prog 41 #[.int .i64 (kk + 1)] w' fun e w'' => e = .returned (.string ⟨(itoa (kk + 1)).toArray⟩) ∧ Gr w' w'') := fun w' hp => itoa_any _ w' hp (by omega) (by omega)
          have li : (itoa ((kk : Int) + 1)).length ≤ 20 := itoa_short (by omega) (by omega)
          have l1 : (ftS c.f num den).length ≤ 12 := ftS_len (by omega) (by omega) hs.out
          have l2 : (ftS c.t num den).length ≤ 12 := ftS_len (by omega) (by omega) hs.out
          have HW : Hid (∀ (l : List UInt8) (s : ByteArray) (w : World), Lb w B l → l.length + s.size ≤ 140737488355328 → s.size ≠ 0 → Calls Tryz.prog 40 #[.pointer (some ⟨B, 0, none⟩), .string s] w fun e w' => e = .returned (.tuple #[.int .i64 s.size, .nilIface]) ∧ Lb w' B (l ++ s.data.toList) ∧ By (Wb w B) w w') := fun l s w h1 h2 h3 => Lb.write B l s w h1 h2 h3
          have hstl := hst.out.2.2
          have y1 : (⟨#[10]⟩ : ByteArray).size = 1 := rfl
          have y2 : (⟨#[32, 45, 45, 62, 32]⟩ : ByteArray).size = 5 := rfl
          go_wp2_with (first
            | (go_at_call 39; (with_reducible refine (HF1.out _ hTr.out).mono ?_); rintro e w3 ⟨rfl, hg3⟩; have kb0 := ka0.gr hg3; have kbC := kaC.gr hg3; obtain ⟨x1, v0, v1, _, _⟩ := kb0.two; have vC := kbC.cell 1; (simp at vC); have hT3 := Lib.hid (Pow.gr hg3 hTr.out))
            | (go_at_call 39; (with_reducible refine (HF2.out _ hT3.out).mono ?_); rintro e w4 ⟨rfl, hg4⟩; have hT4 := Lib.hid (Pow.gr hg4 hT3.out))
            | (go_at_call 41; (with_reducible refine (hI.out _ hT4.out).mono ?_); rintro e w5 ⟨rfl, hg5⟩; have hB5 := Lib.hid (((hBc.gr hg3).gr hg4).gr hg5); have kcC := ((kaC.gr hg3).gr hg4).gr hg5)
            | (go_at_call 40; (with_reducible refine (HW.out acc _ w5 hB5.out ?_ ?_).mono ?_); (· rw [hdr_eq, ba_lsize, hdr_len]; omega); (· rw [hdr_eq, ba_lsize, hdr_len]; omega); rintro e w6 ⟨rfl, hB6, hy6⟩; rw [hdr_eq] at hB6; have kdC := Wb.blk hy6 kcC (by omega) (by decide); have vD := kdC.cell 2; (simp at vD)))
          have hg6 : Gr w w6 := Wb.gr hy6 (((hgc.trans hg3).trans hg4).trans hg5) (by omega)
          have kz0 := Wb.cel hy6 (by omega) (((ka0.gr hg3).gr hg4).gr hg5)
          have kz1 := Wb.cel hy6 (by omega) (((ka1.gr hg3).gr hg4).gr hg5)
          have kz2 := Wb.cel hy6 (by omega) (((ka2.gr hg3).gr hg4).gr hg5)
          have hB6 : Lb w6 B (acc ++ hdrT (itoa (kk + 1)) (ftS c.f num den) (ftS c.t num den)) := by simpa using hB6
          have hlk := hdr_len (itoa ((kk : Int) + 1)) (ftS c.f num den) (ftS c.t num den)
          generalize hH : hdrT (itoa ((kk : Int) + 1)) (ftS c.f num den) (ftS c.t num den) = H at hB6 hlk
          have hH := Lib.hid hH
          clear hB5 kcC hBc kaC ka0 ka1 ka2 k0 k1 k2 hB hT3 hT4 HF1 HF2 hI x0 a0 a1 b0 b1 hy6 hg5 hg4 hg3 hgc hTr
          have hvl : Hid (∀ s ∈ c.ss, s.size ≤ 64) := fun s hs => (vLine_size (List.all_eq_true.1 hvc.2.2.2.2.2 s hs)).2
          have hnl := hvc.2.2.2.2.1
          have hvc := Lib.hid hvc
          go_loopw [64] (fun k wr2 => ∃ (j : Nat), j ≤ c.ss.length ∧ k = .int .i64 j ∧ Gr w wr2 ∧ Lb wr2 B (acc ++ H ++ linT (c.ss.take j)) ∧ Cel wr2 w.heap.size [.int .i64 num, .int .i64 den] ∧ Cel wr2 (w.heap.size + 1) [.string ⟨#[]⟩] ∧ Cel wr2 (w.heap.size + 2) [.int .i64 0]) (fun k _ => c.ss.length - (RowKit.intOf k).toNat)
          case atStart => exact ⟨0, Nat.zero_le _, rfl, hg6, by simpa [linT] using hB6, kz0, kz1, kz2⟩
          case round =>
            obtain ⟨j, hj, rfl, hgr, hBr, kr0, kr1, kr2⟩ := hrel
            clear hg6 hB6 kz0 kz1 kz2
            have hlj := linT_len (c.ss.take j) (fun s hs => hvl.out s (List.mem_of_mem_take hs))
            rw [List.length_take] at hlj
            have hBr := Lib.hid hBr
            by_cases cj : j < c.ss.length
            · have q7 : decide (j < c.ss.length) = true := decide_eq_true cj
              rcases hh2.out with h | ⟨b2, o2, rfl, hb2, hc2⟩
              · omega
              have ek := (hgr.cells.1 b2 (o2 + j) hb2).trans (hc2 j cj)
              have hzk := hvl.out _ (List.getElem_mem cj)
              have htj : Hid (linT (c.ss.take (j + 1)) = linT (c.ss.take j) ++ (c.ss[j].data.toList ++ [10])) := by
                rw [show c.ss.take (j + 1) = c.ss.take j ++ [c.ss[j]] from (List.take_append_getElem cj).symm, linT_snoc]
                exact Lib.hid rfl
              generalize c.ss[j] = sk at ek hzk htj
              clear hc2
              have hse : (sk ++ (⟨#[10]⟩ : ByteArray)).size = sk.size + 1 := by rw [ByteArray.size_append]; rfl
              go_wp2_with (go_at_call 40; (with_reducible refine (HW.out _ (sk ++ ⟨#[10]⟩) _ hBr.out ?_ ?_).mono ?_); (· simp only [List.length_append, hse]; omega); (· rw [hse]; omega); rintro e w7 ⟨rfl, hB7, hy7⟩)
              have hB7 : Lb w7 B (acc ++ H ++ linT (c.ss.take (j + 1))) := by
                rw [htj.out]
                simpa using hB7
              have hg7 := Wb.gr hy7 hgr (by omega)
              have ks0 := Wb.cel hy7 (by omega) kr0
              have ks1 := Wb.cel hy7 (by omega) kr1
              have ks2 := Wb.cel hy7 (by omega) kr2
              go_roundw
              case rel => exact ⟨j + 1, by omega, by go_num, hg7, hB7, ks0, ks1, ks2⟩
              case measure => simp [RowKit.intOf]; omega
            · have q7 : decide (j < c.ss.length) = false := decide_eq_false cj
              obtain rfl : j = c.ss.length := by omega
              have hst1 := hst.out
              rw [hdk.out] at hst1
              have hbd := hst1.2.2
              have hB8 : Hid (Lb wr B (acc ++ H ++ linT c.ss)) := by
                have := hBr.out
                rw [List.take_length] at this
                exact this
              have hst2 : Hid ((acc ++ H ++ linT c.ss ++ [10]) ++ fmtT num den (kk + 1) (cs.drop (kk + 1)) = fmtT num den 0 cs ∧ (cs.take (kk + 1)).all (cueOk num den) = true ∧ (acc ++ H ++ linT c.ss ++ [10]).length ≤ 400 * (kk + 1)) := by
                refine Lib.hid ⟨?_, ?_, ?_⟩
                · rw [← hst1.1, fmtT, ← hH.out]
                  unfold cueT hdrT
                  simp
                · rw [htk.out, List.all_append, hst1.2.1]
                  unfold cueOk
                  simp [m1, m2]
                · simp only [List.length_append, List.length_cons, List.length_nil]
                  rw [List.take_length] at hlj
                  omega
              rw [List.take_length] at hlj
              clear hst1 hst hBr
              go_wp2_with (go_at_call 40; (with_reducible refine (HW.out _ ⟨#[10]⟩ _ hB8.out ?_ ?_).mono ?_); (· simp only [List.length_append]; rw [y1]; omega); (· rw [y1]; omega); rintro e w7 ⟨rfl, hB7, hy7⟩)
              have hB7 : Lb w7 B (acc ++ H ++ linT c.ss ++ [10]) := hB7
              have hg7 := Wb.gr hy7 hgr (by omega)
              have ks0 := Wb.cel hy7 (by omega) kr0
              have ks1 := Wb.cel hy7 (by omega) kr1
              have ks2 := Wb.cel hy7 (by omega) kr2
              go_roundw
              case rel => exact ⟨kk + 1, _, by omega, by go_num, hg7, hB7, ks0, ks1, ks2, hst2⟩
              case measure => simp [RowKit.intOf]; omega
        · have hE1 : ftE c.f num den = 0 := by unfold ftE; rw [if_pos m1]
          have hE2 : ftE c.t num den = 2 := by unfold ftE; rw [if_neg m2]
          rw [hE1] at HF1
          rw [hE2] at HF2
          have hng : fmtG num den cs = false := fmtG_no hmem.out (.inr m2)
          go_wp2_with (first
            | (go_at_call 39; (with_reducible refine (HF1.out _ hTr.out).mono ?_); rintro e w3 ⟨rfl, hg3⟩; have kb0 := ka0.gr hg3; have kbC := kaC.gr hg3; obtain ⟨x1, v0, v1, _, _⟩ := kb0.two; have vC := kbC.cell 1; (simp at vC); have hT3 := Lib.hid (Pow.gr hg3 hTr.out))
            | (go_at_call 39; (with_reducible refine (HF2.out _ hT3.out).mono ?_); rintro e w4 ⟨rfl, hg4⟩; have kb1 := (ka1.gr hg3).gr hg4; have kb2 := (ka2.gr hg3).gr hg4; obtain ⟨u1, u2⟩ := kb1.one; obtain ⟨u3, u4⟩ := kb2.one))
          have hgz := (hgc.trans hg3).trans hg4
          refine leaves_cons (f := 37) (args := #[.pointer (some ⟨w.heap.size + 1, 0, none⟩), .pointer (some ⟨w.heap.size + 1 + 1, 0, none⟩)]) (by simp) (by simp [go_sem]) ?_
          refine (formatD_idle _ _ _).mono ?_
          rintro e u' w'' ⟨rfl, rfl, rfl⟩
          simp [Leaves, settle, results, Tryz.results21, go_sem, u1, u3]
          exact ⟨⟨by unfold fmtSS; rw [hng]; simp, by unfold fmtEE; rw [hng]; simp⟩, (by repeat (first | with_reducible exact Gr.refl _ | with_reducible assumption | refine Gr.setCell ?_ (by first | omega | (simp; done) | (simp; omega)) _ | refine Gr.alloc ?_ _ | refine Gr.drew ?_ | refine Gr.drewN ?_ _ | refine Gr.trans ?_ (by with_reducible assumption)))⟩
      · have hE : ftE c.f num den = 2 := by unfold ftE; rw [if_neg m1]
        rw [hE] at HF1
        have hng : fmtG num den cs = false := fmtG_no hmem.out (.inl m1)
        go_wp2_with (go_at_call 39; (with_reducible refine (HF1.out _ hTr.out).mono ?_); rintro e w3 ⟨rfl, hg3⟩; have kb1 := ka1.gr hg3; have kb2 := ka2.gr hg3; obtain ⟨u1, u2⟩ := kb1.one; obtain ⟨u3, u4⟩ := kb2.one)
        have hgz := hgc.trans hg3
        refine leaves_cons (f := 37) (args := #[.pointer (some ⟨w.heap.size + 1, 0, none⟩), .pointer (some ⟨w.heap.size + 1 + 1, 0, none⟩)]) (by simp) (by simp [go_sem]) ?_
        refine (formatD_idle _ _ _).mono ?_
        rintro e u' w'' ⟨rfl, rfl, rfl⟩
        simp [Leaves, settle, results, Tryz.results21, go_sem, u1, u3]
        exact ⟨⟨by unfold fmtSS; rw [hng]; simp, by unfold fmtEE; rw [hng]; simp⟩, (by repeat (first | with_reducible exact Gr.refl _ | with_reducible assumption | refine Gr.setCell ?_ (by first | omega | (simp; done) | (simp; omega)) _ | refine Gr.alloc ?_ _ | refine Gr.drew ?_ | refine Gr.drewN ?_ _ | refine Gr.trans ?_ (by with_reducible assumption)))⟩
    · have q6 : decide (kk < cs.length) = false := decide_eq_false c1
      obtain rfl : kk = cs.length := by omega
      have hst1 := hst.out
      rw [List.take_length, List.drop_of_length_le (Nat.le_refl _)] at hst1
      have hacc : acc = fmtT num den 0 cs := by have := hst1.1; rw [fmtT, List.append_nil] at this; exact this
      have hfs : fmtSS num den cs = acc := by unfold fmtSS; rw [show fmtG num den cs = true from hst1.2.1, hacc]; simp
      have hfe : fmtEE num den cs = 0 := by unfold fmtEE; rw [show fmtG num den cs = true from hst1.2.1]; simp
      have hfs := Lib.hid hfs
      have hfe := Lib.hid hfe
      have HR : Hid (Calls Tryz.prog 42 #[.pointer (some ⟨B, 0, none⟩)] wr fun e w' => e = .returned (.string ⟨acc.toArray⟩) ∧ By (Wb wr B) wr w') := Lb.read B acc wr hB
      clear hst1 hst hacc hsh hC hcg hfg
      go_wp2_with (go_at_call 42; (with_reducible refine HR.out.mono ?_); rintro e w7 ⟨rfl, hy7⟩; have hg7 := Wb.gr hy7 hg (by omega); have ks1 := Wb.cel hy7 (by omega) k1; have ks2 := Wb.cel hy7 (by omega) k2; obtain ⟨u1, u2⟩ := ks1.one; obtain ⟨u3, u4⟩ := ks2.one)
      refine leaves_cons (f := 37) (args := #[.pointer (some ⟨w.heap.size + 1, 0, none⟩), .pointer (some ⟨w.heap.size + 1 + 1, 0, none⟩)]) (by simp) (by simp [go_sem]) ?_
      refine (formatD_idle _ _ _).mono ?_
      rintro e u' w'' ⟨rfl, rfl, rfl⟩
      simp [Leaves, settle, results, Tryz.results21, go_sem, u1, u3]
      exact ⟨⟨hfs.out.symm, hfe.out.symm⟩, (by repeat (first | with_reducible exact Gr.refl _ | with_reducible assumption | refine Gr.setCell ?_ (by first | omega | (simp; done) | (simp; omega)) _ | refine Gr.alloc ?_ _ | refine Gr.drew ?_ | refine Gr.drewN ?_ _ | refine Gr.trans ?_ (by with_reducible assumption)))⟩
end Go.Proofs.YthadhmhbbfjomaaGreatDoor
