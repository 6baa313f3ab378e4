/-
  Plain law of edit lists: events, the clips of a list, joined events.
  Conditions: none.
-/
import Derived.Test.YtgbiodnfpbhjiaaGreatDoorMathCb
import Derived.Test.YtgbiodnfpbhjiaaGreatDoorWalkVa
namespace Go.Proofs.YtgbiodnfpbhjiaaGreatDoor
set_option linter.unusedVariables false
set_option linter.unusedSimpArgs false

abbrev noTx : ByteArray := ⟨#[]⟩
/-- the fields of a clip that its kind allows -/
def kindOk (c : Cl) : Prop :=
  (c.kind = 0 ∧ c.a = blkS ∧ c.b = blkS ∧ c.off = 0 ∧ c.tot = 0 ∧ c.par = 0 ∧ c.tx = noTx ∧ c.gain = 0 ∧ c.ch = []) ∨
  (c.kind = 1 ∧ c.b = blkS ∧ c.off = 0 ∧ c.tot = 0 ∧ c.par = 0 ∧ c.tx = noTx) ∨
  (c.kind = 2 ∧ (0 ≤ c.off ∧ c.len ≤ c.tot ∧ c.tot ≤ 2147483647 ∧ c.off ≤ c.tot - c.len) ∧ c.par = 0 ∧ c.tx = noTx) ∨
  (c.kind = 3 ∧ (0 ≤ c.off ∧ c.len ≤ c.tot ∧ c.tot ≤ 2147483647 ∧ c.off ≤ c.tot - c.len) ∧ (0 ≤ c.par ∧ c.par ≤ 3) ∧ c.tx = noTx) ∨
  (c.kind = 4 ∧ c.off = 0 ∧ c.tot = 0 ∧ (0 ≤ c.par ∧ c.par ≤ 255) ∧ c.tx = noTx) ∨
  (c.kind = 5 ∧ c.b = blkS ∧ c.off = 0 ∧ c.tot = 0 ∧ c.par = 0 ∧ vLine c.tx = true)
/-- a valid clip -/
structure VC (c : Cl) : Prop where
  len : 1 ≤ c.len ∧ c.len ≤ 2147483647
  gain : 0 ≤ c.gain ∧ c.gain ≤ 65536
  chn : c.ch.length ≤ 4 ∧ ∀ x ∈ c.ch, -1 ≤ x ∧ x ≤ 3
  a : vSr c.a
  b : vSr c.b
  kd : kindOk c
theorem VC.vl {c : Cl} (h : VC c) : VL c := by
  refine ⟨h.len, h.a, h.b, fun h0 => ?_⟩
  rcases h.kd with h | h | h | h | h | h
  · exact ⟨h.2.1, h.2.2.1, h.2.2.2.1, h.2.2.2.2.1, h.2.2.2.2.2.1, h.2.2.2.2.2.2.1, h.2.2.2.2.2.2.2.1, h.2.2.2.2.2.2.2.2⟩
  all_goals (have := h.1; omega)
theorem VC.longer {m c : Cl} (hm : VC m) (hc : VC c) (hk : cont m c = true) (hl : m.len + c.len ≤ 2147483647) : VC (longer m c.len) := by
  have h1 := hm.len
  have h2 := hc.len
  refine ⟨⟨by rw [longer_len]; omega, by rw [longer_len]; omega⟩, hm.gain, hm.chn, hm.a, hm.b, ?_⟩
  have key : shr m.kind = true → m.off + m.len = c.off ∧ c.tot = m.tot ∧ c.kind = m.kind := fun hs => by
    unfold cont at hk
    rw [Bool.or_eq_true, decide_eq_true_eq, decide_eq_true_eq] at hk
    rcases hk with ⟨k1, k2⟩ | hk
    · rw [k1] at hs; simp [shr] at hs
    · have e1 : (if shr m.kind then m.off + m.len else m.off) = c.off := (congrArg Cl.off hk :)
      rw [if_pos hs] at e1
      exact ⟨e1, (congrArg Cl.tot hk :).symm, (congrArg Cl.kind hk :).symm⟩
  have hs : ∀ t : Int, (t = 2 ∨ t = 3) → m.kind = t → m.off + m.len + c.len ≤ m.tot := fun t ht he => by
    obtain ⟨k1, k2, k3⟩ := key (by rw [he]; unfold shr; exact decide_eq_true ht)
    rcases hc.kd with h | h | h | h | h | h
    · have := h.1; omega
    · have := h.1; omega
    · have := h.2.1; omega
    · have := h.2.1; omega
    · have := h.1; omega
    · have := h.1; omega
  rcases hm.kd with h | h | h | h | h | h
  · exact .inl h
  · exact .inr (.inl h)
  · have := hs 2 (.inl rfl) h.1
    have h3 := h.2.1
    refine .inr (.inr (.inl ⟨h.1, ⟨h3.1, ?_, h3.2.2.1, ?_⟩, h.2.2⟩)) <;> rw [longer_len] <;> unfold Go.Proofs.YtgbiodnfpbhjiaaGreatDoor.longer <;> simp only <;> omega
  · have := hs 3 (.inr rfl) h.1
    have h3 := h.2.1
    refine .inr (.inr (.inr (.inl ⟨h.1, ⟨h3.1, ?_, h3.2.2.1, ?_⟩, h.2.2⟩))) <;> rw [longer_len] <;> unfold Go.Proofs.YtgbiodnfpbhjiaaGreatDoor.longer <;> simp only <;> omega
  · exact .inr (.inr (.inr (.inr (.inl h))))
  · exact .inr (.inr (.inr (.inr (.inr h))))
theorem pk_valid {l : List Cl} (h : ∀ c ∈ l, VC c) (ht : tot l ≤ 2147483647) : ∀ c ∈ pk l, VC c :=
  pk_all (P := VC) (fun m c hm hc hk hl => hm.longer hc hk hl) (fun c hc => hc.len.1) h ht

/-- an event -/
structure Ev where
  k : Int
  p : Int
  fr : Int
  reel : ByteArray
  i : Int
  o : Int
  f : Int
  t : Int
  deriving DecidableEq
def vKd (e : Ev) : Bool := decide (e.k = 0 ∧ e.fr = 0 ∧ e.p = 0) || decide (e.k = 1 ∧ 1 ≤ e.fr ∧ e.fr ≤ 999 ∧ e.p = 0) || decide (e.k = 2 ∧ 1 ≤ e.fr ∧ e.fr ≤ 999 ∧ 0 ≤ e.p ∧ e.p ≤ 3)
def vRl (e : Ev) (day : Int) : Bool := if e.reel.size = 0 then decide (e.i = 0 ∧ e.o = 0) else nmB e.reel && decide (0 ≤ e.i ∧ e.i < day ∧ e.o = e.i + (e.t - e.f) ∧ e.o < day)
def vEv (e : Ev) (least day : Int) : Bool := vKd e && decide (least ≤ e.f ∧ e.f < e.t ∧ e.t < day ∧ e.fr ≤ e.t - e.f) && vRl e day
def vEvs (day : Int) : Int → List Ev → Bool
  | _, [] => true
  | least, e :: l => vEv e least day && vEvs day e.t l
/-- the source of a reel from a frame on -/
def plS (r : ByteArray) (n : Int) : Sr := if r.size = 0 then blkS else ⟨1, r, n, 1, 1, 1, false⟩
structure VE (e : Ev) (least day : Int) : Prop where
  kd : (e.k = 0 ∧ e.fr = 0 ∧ e.p = 0) ∨ (e.k = 1 ∧ 1 ≤ e.fr ∧ e.fr ≤ 999 ∧ e.p = 0) ∨ (e.k = 2 ∧ 1 ≤ e.fr ∧ e.fr ≤ 999 ∧ 0 ≤ e.p ∧ e.p ≤ 3)
  l : least ≤ e.f
  ft : e.f < e.t
  d : e.t < day
  fr : e.fr ≤ e.t - e.f
  rl : (e.reel.size = 0 ∧ e.i = 0 ∧ e.o = 0) ∨ (e.reel.size ≠ 0 ∧ nmB e.reel = true ∧ 0 ≤ e.i ∧ e.i < day ∧ e.o = e.i + (e.t - e.f) ∧ e.o < day)
theorem vEv_iff {e : Ev} {least day : Int} : vEv e least day = true ↔ VE e least day := by
  unfold vEv vKd vRl
  simp only [Bool.and_eq_true, Bool.or_eq_true, decide_eq_true_eq]
  constructor
  · rintro ⟨⟨h1, h2⟩, h3⟩
    refine ⟨by rcases h1 with (h1 | h1) | h1; exact .inl h1; exact .inr (.inl h1); exact .inr (.inr h1), h2.1, h2.2.1, h2.2.2.1, h2.2.2.2, ?_⟩
    split at h3
    · rename_i h
      exact .inl ⟨h, of_decide_eq_true h3⟩
    · rename_i h
      rw [Bool.and_eq_true, decide_eq_true_eq] at h3
      exact .inr ⟨h, h3⟩
  · intro h
    refine ⟨⟨by rcases h.kd with h1 | h1 | h1; exact .inl (.inl h1); exact .inl (.inr h1); exact .inr h1, h.l, h.ft, h.d, h.fr⟩, ?_⟩
    rcases h.rl with h1 | h1
    · rw [if_pos h1.1]; exact decide_eq_true h1.2
    · rw [if_neg h1.1, Bool.and_eq_true, decide_eq_true_eq]; exact h1.2
theorem vEvs_cons {day least : Int} {e : Ev} {l : List Ev} : vEvs day least (e :: l) = true ↔ VE e least day ∧ vEvs day e.t l = true := by
  rw [vEvs, Bool.and_eq_true, vEv_iff]
theorem plS_mv (r : ByteArray) {a n : Int} (h1 : -9223372036854775807 ≤ a + n) (h2 : a + n ≤ 9223372036854775807) : mvS (plS r a) n = plS r (a + n) := by
  unfold plS
  split
  · exact mvS_blk n
  · have hne : (⟨1, r, a, 1, 1, 1, false⟩ : Sr) ≠ blkS := fun e => by have := congrArg Sr.k e; simp [blkS] at this
    rw [mvS_yes hne]
    have hx : mvX ⟨1, r, a, 1, 1, 1, false⟩ n = a + n := by unfold mvX; simp only; omega
    have hy : mvY ⟨1, r, a, 1, 1, 1, false⟩ = 1 := by unfold mvY; simp only; omega
    have hs := red_self (n := a + n) (d := 1) (vB_true (by omega) (by omega) (by unfold gc; simp)) h2 (by omega)
    rw [hx, hy, hs.1, hs.2.1]
    rfl
theorem plS_valid {r : ByteArray} {n : Int} (hr : r.size = 0 ∨ nmB r = true) (h0 : 0 ≤ n) (h1 : n ≤ 1099511627776) : vSr (plS r n) := by
  unfold plS
  split
  · exact .inl rfl
  · rename_i h
    refine .inr ⟨.inl rfl, hr.elim (fun e => absurd e h) id, vB_true (by simp only; omega) (by simp only; omega) (by unfold gc; simp), vB_true (by simp only; omega) (by simp only; omega) (by unfold gc; simp), by simp only; omega, by simp only; omega, by simp only; omega, by simp only; omega, ?_⟩
    unfold bsS gc
    simp
def cutC (n : Int) (s : Sr) : Cl := ⟨n, 1, s, blkS, 0, 0, 0, noTx, 0, []⟩
def gapC (n : Int) : Cl := ⟨n, 0, blkS, blkS, 0, 0, 0, noTx, 0, []⟩
def mixC (e : Ev) (bf : Sr) : Cl := ⟨e.fr, e.k + 1, bf, plS e.reel e.i, 0, e.fr, e.p, noTx, 0, []⟩
def evM (bf : Sr) (e : Ev) : List Cl := if e.fr ≤ 0 then [] else [mixC e bf]
def evR (e : Ev) : List Cl := if e.t - e.f - e.fr ≤ 0 then [] else [cutC (e.t - e.f - e.fr) (plS e.reel (e.i + e.fr))]
def evC (bf : Sr) (e : Ev) : List Cl := evM bf e ++ evR e
/-- the clips of events that follow frame n -/
def trk : Int → Sr → List Ev → List Cl
  | _, _, [] => []
  | n, bf, e :: l => (if n < e.f then gapC (e.f - n) :: evC blkS e else evC bf e) ++ trk e.t (plS e.reel e.o) l
theorem VE.reel {e : Ev} {n day : Int} (h : VE e n day) : e.reel.size = 0 ∨ nmB e.reel = true := by
  rcases h.rl with h | h
  · exact .inl h.1
  · exact .inr h.2.1
theorem VE.bounds {e : Ev} {n day : Int} (h : VE e n day) (h0 : 0 ≤ n) : 0 ≤ e.i ∧ 0 ≤ e.o ∧ e.i ≤ day ∧ e.o ≤ day ∧ 0 ≤ e.fr := by
  have h1 := h.l
  have h2 := h.ft
  have h3 := h.d
  have h4 : 0 ≤ e.fr := by rcases h.kd with h | h | h <;> omega
  rcases h.rl with h | h
  · omega
  · omega
theorem evC_valid {e : Ev} {n day : Int} {bf : Sr} (h : VE e n day) (h0 : 0 ≤ n) (hd : day ≤ 5184000) (hb : vSr bf) : ∀ c ∈ evC bf e, VC c := by
  obtain ⟨b1, b2, b3, b4, b5⟩ := h.bounds h0
  have h1 := h.l
  have h2 := h.ft
  have h3 := h.d
  have h4 := h.fr
  intro c hc
  rcases List.mem_append.1 hc with hc | hc
  · unfold evM at hc
    split at hc
    · cases hc
    · rename_i hf
      rw [List.mem_singleton.1 hc]
      refine ⟨by unfold mixC; simp only; omega, by unfold mixC; simp only; omega, by unfold mixC; simp, hb, plS_valid h.reel b1 (by omega), ?_⟩
      rcases h.kd with h | h | h
      · omega
      · exact .inr (.inr (.inl ⟨by unfold mixC; simp only; omega, by unfold mixC; simp only; omega, by unfold mixC; simp only; omega, rfl⟩))
      · exact .inr (.inr (.inr (.inl ⟨by unfold mixC; simp only; omega, by unfold mixC; simp only; omega, by unfold mixC; simp only; omega, rfl⟩)))
  · unfold evR at hc
    split at hc
    · cases hc
    · rw [List.mem_singleton.1 hc]
      exact ⟨by unfold cutC; simp only; omega, by unfold cutC; simp only; omega, by unfold cutC; simp, plS_valid h.reel (by omega) (by omega), .inl rfl, .inr (.inl ⟨rfl, rfl, rfl, rfl, rfl, rfl⟩)⟩
theorem evC_tot {e : Ev} {n day : Int} {bf : Sr} (h : VE e n day) : tot (evC bf e) = e.t - e.f := by
  have h2 := h.ft
  have h4 := h.fr
  have h5 : 0 ≤ e.fr := by rcases h.kd with h | h | h <;> omega
  unfold evC evM evR
  rw [tot_append]
  split <;> split <;> simp only [tot, mixC, cutC] <;> omega
theorem gapC_valid {n : Int} (h0 : 1 ≤ n) (h1 : n ≤ 2147483647) : VC (gapC n) :=
  ⟨⟨h0, h1⟩, by unfold gapC; simp only; omega, by unfold gapC; simp, .inl rfl, .inl rfl, .inl ⟨rfl, rfl, rfl, rfl, rfl, rfl, rfl, rfl, rfl⟩⟩
/-- the clips that an event adds -/
def adds (n : Int) (bf : Sr) (e : Ev) : List Cl := if n < e.f then gapC (e.f - n) :: evC blkS e else evC bf e
theorem trk_cons (n : Int) (bf : Sr) (e : Ev) (l : List Ev) : trk n bf (e :: l) = adds n bf e ++ trk e.t (plS e.reel e.o) l := rfl
theorem adds_valid {e : Ev} {n day : Int} {bf : Sr} (h : VE e n day) (h0 : 0 ≤ n) (hd : day ≤ 5184000) (hb : vSr bf) : ∀ c ∈ adds n bf e, VC c := by
  unfold adds
  split
  · intro c hc
    rcases List.mem_cons.1 hc with rfl | hc
    · exact gapC_valid (by omega) (by have := h.ft; have := h.d; omega)
    · exact evC_valid h h0 hd (.inl rfl) c hc
  · exact evC_valid h h0 hd hb
theorem adds_tot {e : Ev} {n day : Int} {bf : Sr} (h : VE e n day) : tot (adds n bf e) = e.t - n := by
  have := h.l
  unfold adds
  split
  · simp only [tot, evC_tot h, gapC]; omega
  · rw [evC_tot h]; omega
theorem adds_len (e : Ev) (n : Int) (bf : Sr) : (adds n bf e).length ≤ 3 := by
  unfold adds evC evM evR
  split <;> split <;> split <;> simp
theorem VE.after {e : Ev} {n day : Int} (h : VE e n day) (h0 : 0 ≤ n) (hd : day ≤ 5184000) : vSr (plS e.reel e.o) := by
  obtain ⟨b1, b2, b3, b4, b5⟩ := h.bounds h0
  exact plS_valid h.reel b2 (by omega)
theorem trk_valid {day : Int} (hd : day ≤ 5184000) : ∀ {l : List Ev} {n : Int} {bf : Sr}, vEvs day n l = true → 0 ≤ n → vSr bf → ∀ c ∈ trk n bf l, VC c
  | [], _, _, _, _, _, c, hc => by cases hc
  | e :: l, n, bf, h, h0, hb, c, hc => by
    obtain ⟨he, hl⟩ := vEvs_cons.1 h
    rw [trk_cons] at hc
    rcases List.mem_append.1 hc with hc | hc
    · exact adds_valid he h0 hd hb c hc
    · exact trk_valid hd hl (by have := he.l; have := he.ft; omega) (he.after h0 hd) c hc
/-- the end of a list of events that follow frame n -/
def endE : Int → List Ev → Int
  | n, [] => n
  | _, e :: l => endE e.t l
theorem endE_ge {day : Int} : ∀ {l : List Ev} {n : Int}, vEvs day n l = true → n ≤ endE n l ∧ (n < day → endE n l < day)
  | [], n, _ => ⟨Int.le_refl _, id⟩
  | e :: l, n, h => by
    obtain ⟨he, hl⟩ := vEvs_cons.1 h
    have := endE_ge hl
    have := he.l
    have := he.ft
    have := he.d
    simp only [endE]
    omega
theorem trk_tot {day : Int} : ∀ {l : List Ev} {n : Int} {bf : Sr}, vEvs day n l = true → tot (trk n bf l) = endE n l - n
  | [], _, _, _ => by simp [trk, tot, endE]
  | e :: l, n, bf, h => by
    obtain ⟨he, hl⟩ := vEvs_cons.1 h
    rw [trk_cons, tot_append, adds_tot he, trk_tot hl]
    simp only [endE]
    omega
/-- what stands before the next event -/
def bfE : Sr → List Ev → Sr
  | bf, [] => bf
  | _, e :: l => bfE (plS e.reel e.o) l
theorem trk_append : ∀ (a b : List Ev) (n : Int) (bf : Sr), trk n bf (a ++ b) = trk n bf a ++ trk (endE n a) (bfE bf a) b
  | [], b, n, bf => rfl
  | e :: a, b, n, bf => by
    rw [List.cons_append, trk_cons, trk_cons, trk_append a b, List.append_assoc]
    rfl
theorem endE_snoc : ∀ (a : List Ev) (e : Ev) (n : Int), endE n (a ++ [e]) = e.t
  | [], e, n => rfl
  | x :: a, e, n => endE_snoc a e x.t
theorem bfE_snoc : ∀ (a : List Ev) (e : Ev) (bf : Sr), bfE bf (a ++ [e]) = plS e.reel e.o
  | [], e, bf => rfl
  | x :: a, e, bf => bfE_snoc a e _
end Go.Proofs.YtgbiodnfpbhjiaaGreatDoor
