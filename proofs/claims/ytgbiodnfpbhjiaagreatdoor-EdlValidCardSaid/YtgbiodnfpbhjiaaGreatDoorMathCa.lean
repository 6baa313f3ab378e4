/-
  Plain law of clips: sources and how they move, when a clip continues another, and how a list of clips is packed.
  Conditions: none.
-/
import Derived.Test.YtgbiodnfpbhjiaaGreatDoorMathH
namespace Go.Proofs.YtgbiodnfpbhjiaaGreatDoor
set_option linter.unusedVariables false
set_option linter.unusedSimpArgs false

/-- a byte of a name -/
def nmc (b : UInt8) : Bool := decide (97 ≤ b.toNat ∧ b.toNat ≤ 122) || decide (48 ≤ b.toNat ∧ b.toNat ≤ 57) || decide (b.toNat = 45) || decide (b.toNat = 95) || decide (b.toNat = 46)
def nmB (s : ByteArray) : Bool := decide (1 ≤ s.size) && decide (s.size ≤ 32) && s.data.toList.all nmc
/-- a source -/
structure Sr where
  k : Int
  nm : ByteArray
  an : Int
  ad : Int
  sn : Int
  sd : Int
  sm : Bool
  deriving DecidableEq
def blkS : Sr := ⟨0, ⟨#[]⟩, 0, 0, 0, 0, false⟩
/-- position n frames later, over one denominator -/
def mvX (s : Sr) (n : Int) : Int := s.an * s.sd + n * s.sn * s.ad
def mvY (s : Sr) : Int := s.ad * s.sd
def Sr.to (s : Sr) (n d : Int) : Sr := ⟨s.k, s.nm, n, d, s.sn, s.sd, s.sm⟩
def mvS (s : Sr) (n : Int) : Sr := if s = blkS then s else s.to (rN (mvX s n) (mvY s)) (rD (mvX s n) (mvY s))
/-- the common denominator -/
def bsS (s : Sr) : Int := s.ad / gc s.ad s.sd * s.sd
structure VS (s : Sr) : Prop where
  k : s.k = 1 ∨ s.k = 2
  nm : nmB s.nm = true
  a : vB s.an s.ad = true
  sp : vB s.sn s.sd = true
  a1 : s.ad ≤ 65536
  a2 : -1099511627776 * s.ad ≤ s.an ∧ s.an ≤ 1099511627776 * s.ad
  s1 : s.sd ≤ 65536
  s2 : -1024 * s.sd ≤ s.sn ∧ s.sn ≤ 1024 * s.sd
  b : bsS s ≤ 65536
/-- a valid source -/
def vSr (s : Sr) : Prop := s = blkS ∨ VS s
theorem VS.ne {s : Sr} (h : VS s) : s ≠ blkS := fun e => by
  have := h.k
  rw [e] at this
  simp [blkS] at this
theorem le_mul_one {a b : Int} (ha : 0 ≤ a) (hb : 1 ≤ b) : a ≤ a * b := by
  have := Int.mul_le_mul_of_nonneg_left hb ha
  omega
theorem lcm_facts {a d : Int} (ha : 1 ≤ a) (hd : 1 ≤ d) : ∃ g α δ : Int, gc a d = g ∧ 1 ≤ g ∧ a = α * g ∧ d = δ * g ∧ 1 ≤ α ∧ 1 ≤ δ ∧ a / gc a d * d = α * δ * g := by
  obtain ⟨g, hg⟩ : ∃ g, gc a d = g := ⟨_, rfl⟩
  have g1 : 1 ≤ g := by rw [← hg]; exact gc_pos_left a d (by omega)
  obtain ⟨α, hα⟩ := gc_dvd_left a d
  obtain ⟨δ, hδ⟩ := gc_dvd_right a d
  rw [hg] at hα hδ ⊢
  have hα' : a = α * g := by rw [hα, Int.mul_comm]
  have hδ' : d = δ * g := by rw [hδ, Int.mul_comm]
  refine ⟨g, α, δ, rfl, g1, hα', hδ', ?_, ?_, ?_⟩
  · by_cases h : 1 ≤ α
    · exact h
    · have : α * g ≤ 0 := Int.mul_nonpos_of_nonpos_of_nonneg (by omega) (by omega)
      omega
  · by_cases h : 1 ≤ δ
    · exact h
    · have : δ * g ≤ 0 := Int.mul_nonpos_of_nonpos_of_nonneg (by omega) (by omega)
      omega
  · rw [hα', Int.mul_ediv_cancel _ (by omega : g ≠ 0), hδ', Int.mul_assoc]
/-- the reference's numbers -/
theorem mv_base {s : Sr} (h : VS s) (n : Int) : 1 ≤ bsS s ∧ bsS s ≤ 65536 ∧ 0 < mvY s ∧
    mvX s n * bsS s = (s.an * (bsS s / s.ad) + n * s.sn * (bsS s / s.sd)) * mvY s ∧ 1 ≤ bsS s / s.ad ∧ bsS s / s.ad ≤ 65536 ∧ 1 ≤ bsS s / s.sd ∧ bsS s / s.sd ≤ 65536 ∧ bsS s / s.ad * s.ad = bsS s ∧ bsS s / s.sd * s.sd = bsS s := by
  obtain ⟨a1, _, _⟩ := vB_inv h.a
  obtain ⟨d1, _, _⟩ := vB_inv h.sp
  obtain ⟨g, α, δ, hg, g1, hα, hδ, α1, δ1, hb⟩ := lcm_facts a1 d1
  have hb' : bsS s = α * δ * g := hb
  have e1 : bsS s / s.ad = δ := by
    rw [hb', hα, show α * δ * g = δ * (α * g) by grind]
    exact Int.mul_ediv_cancel _ (by rw [← hα]; omega)
  have e2 : bsS s / s.sd = α := by
    rw [hb', hδ, show α * δ * g = α * (δ * g) by grind]
    exact Int.mul_ediv_cancel _ (by rw [← hδ]; omega)
  have h1 : 1 ≤ α * δ * g := by
    have h0 : 0 < α * δ := Int.mul_pos (by omega) (by omega)
    have : 0 < α * δ * g := Int.mul_pos h0 (by omega)
    omega
  have hαb : α ≤ s.ad := by rw [hα]; exact le_mul_one (by omega) g1
  have hδb : δ ≤ s.sd := by rw [hδ]; exact le_mul_one (by omega) g1
  have z1 := h.a1
  have z2 := h.s1
  refine ⟨by rw [hb']; exact h1, h.b, Int.mul_pos (by omega) (by omega), ?_, by omega, by omega, by omega, by omega, ?_, ?_⟩
  · rw [e1, e2, hb']
    unfold mvX mvY
    rw [hα, hδ]
    grind
  · rw [e1, hb', hα]; grind
  · rw [e2, hb', hδ]; grind
theorem abs_mul_le {x y A B : Int} (h1 : -A ≤ x) (h2 : x ≤ A) (h3 : -B ≤ y) (h4 : y ≤ B) (hA : 0 ≤ A) (hB : 0 ≤ B) : -(A * B) ≤ x * y ∧ x * y ≤ A * B := by
  have m1 : x.natAbs * y.natAbs ≤ A.natAbs * B.natAbs := Nat.mul_le_mul (by omega) (by omega)
  rw [← Int.natAbs_mul, ← Int.natAbs_mul] at m1
  have := Int.mul_nonneg hA hB
  omega
/-- the numbers of a move are small -/
theorem mv_num {s : Sr} (h : VS s) {n : Int} (n0 : -4294967296 ≤ n) (n1 : n ≤ 4294967296) :
    -72057594037927936 * 9 ≤ s.an * (bsS s / s.ad) ∧ s.an * (bsS s / s.ad) ≤ 72057594037927936 * 9 ∧ -(4294967296 * (1024 * 65536)) ≤ n * s.sn * (bsS s / s.sd) ∧ n * s.sn * (bsS s / s.sd) ≤ 4294967296 * (1024 * 65536) := by
  obtain ⟨b1, b2, b3, b4, b5, b6, b7, b8, b9, b10⟩ := mv_base h n
  obtain ⟨a1, a2⟩ := h.a2
  obtain ⟨s1, s2⟩ := h.s2
  obtain ⟨β, hβ⟩ : ∃ β, bsS s / s.ad = β := ⟨_, rfl⟩
  obtain ⟨σ, hσ⟩ : ∃ σ, bsS s / s.sd = σ := ⟨_, rfl⟩
  rw [hβ] at b5 b6 b9 ⊢
  rw [hσ] at b7 b8 b10 ⊢
  obtain ⟨d1, _, _⟩ := vB_inv h.sp
  have k1 : -(1099511627776 * s.ad) * β ≤ s.an * β := Int.mul_le_mul_of_nonneg_right (by omega) (by omega)
  have k2 : s.an * β ≤ 1099511627776 * s.ad * β := Int.mul_le_mul_of_nonneg_right (by omega) (by omega)
  have k3 : 1099511627776 * s.ad * β = 1099511627776 * bsS s := by rw [← b9]; grind
  have k4 : -(1099511627776 * s.ad) * β = -(1099511627776 * bsS s) := by rw [← b9]; grind
  rw [k4] at k1
  rw [k3] at k2
  have j1 := abs_mul_le n0 n1 (B := 1024 * s.sd) (by omega) (by omega) (by omega) (by omega) (x := n) (y := s.sn)
  have j2 := abs_mul_le (x := n * s.sn) (y := σ) (A := 4294967296 * (1024 * s.sd)) (B := σ) (by omega) (by omega) (by omega) (by omega) (by omega) (by omega)
  have j3 : 4294967296 * (1024 * s.sd) * σ = 4294967296 * (1024 * bsS s) := by rw [← b10]; grind
  rw [j3] at j2
  omega
theorem rF_small {X Y : Int} (hY : 0 < Y) (h1 : -9223372036854775807 ≤ X) (h2 : X ≤ 9223372036854775807) (h3 : Y ≤ 9223372036854775807) : rF X Y = true := by
  have hg : 1 ≤ gc X Y := gc_pos_right X Y hY
  unfold rF
  refine decide_eq_true ⟨?_, ?_⟩
  · have : mg X / gc X Y ≤ mg X := Int.ediv_le_self _ (mg_nonneg X)
    have : mg X ≤ 9223372036854775807 := by unfold mg; split <;> omega
    omega
  · have : Y / gc X Y ≤ Y := Int.ediv_le_self _ (by omega)
    omega
/-- a move fits; it is the reference's -/
theorem mv_fit {s : Sr} (h : VS s) {n : Int} (n0 : -4294967296 ≤ n) (n1 : n ≤ 4294967296) :
    rE (mvX s n) (mvY s) = 0 ∧ rN (mvX s n) (mvY s) = (s.an * (bsS s / s.ad) + n * s.sn * (bsS s / s.sd)) / gc (s.an * (bsS s / s.ad) + n * s.sn * (bsS s / s.sd)) (bsS s) ∧
      rD (mvX s n) (mvY s) = bsS s / gc (s.an * (bsS s / s.ad) + n * s.sn * (bsS s / s.sd)) (bsS s) := by
  obtain ⟨b1, b2, b3, b4, b5, b6, b7, b8, b9, b10⟩ := mv_base h n
  obtain ⟨z1, z2, z3, z4⟩ := mv_num h n0 n1
  obtain ⟨Z, hZ⟩ : ∃ Z, s.an * (bsS s / s.ad) + n * s.sn * (bsS s / s.sd) = Z := ⟨_, rfl⟩
  rw [hZ] at b4 ⊢
  have hu := red_unique b3 (by omega : 0 < bsS s) b4
  have hf : rF Z (bsS s) = true := rF_small (by omega) (by omega) (by omega) (by omega)
  refine ⟨by rw [hu.2.2.2]; exact rE_zero.2 hf, ?_, ?_⟩
  · rw [hu.2.1]; unfold rN; rw [if_pos hf]
  · rw [hu.2.2.1]; unfold rD; rw [if_pos hf]
theorem mvS_blk (n : Int) : mvS blkS n = blkS := by unfold mvS; rw [if_pos rfl]
theorem mvS_yes {s : Sr} (h : s ≠ blkS) (n : Int) : mvS s n = s.to (rN (mvX s n) (mvY s)) (rD (mvX s n) (mvY s)) := by unfold mvS; rw [if_neg h]
theorem mvS_ne {s : Sr} (h : VS s) (n : Int) : mvS s n ≠ blkS := fun e => by
  rw [mvS_yes h.ne] at e
  have := congrArg Sr.k e
  have h2 := h.k
  simp [blkS, Sr.to] at this
  omega
/-- two moves are one -/
theorem mvS_add {s : Sr} (h : vSr s) {n m : Int} (n0 : -4294967296 ≤ n) (n1 : n ≤ 4294967296) : mvS (mvS s n) m = mvS s (n + m) := by
  rcases h with rfl | h
  · rw [mvS_blk, mvS_blk, mvS_blk]
  have hne := mvS_ne h n
  rw [mvS_yes h.ne] at hne
  rw [mvS_yes h.ne, mvS_yes hne, mvS_yes h.ne]
  obtain ⟨a1, _, _⟩ := vB_inv h.a
  obtain ⟨d1, _, _⟩ := vB_inv h.sp
  have hY : 0 < mvY s := Int.mul_pos (by omega) (by omega)
  obtain ⟨v1, v2, v3, v4, v5⟩ := red_spec hY (mv_fit h n0 n1).1
  clear v1 v4 v5 hne
  generalize rN (mvX s n) (mvY s) = p at *
  generalize rD (mvX s n) (mvY s) = q at *
  have hc : mvX (s.to p q) m * mvY s = mvX s (n + m) * mvY (s.to p q) := by
    unfold mvX mvY at v2 ⊢
    simp only [Sr.to]
    clear hY a1 d1
    grind
  have hY' : 0 < mvY (s.to p q) := Int.mul_pos v3 (by show 0 < s.sd; omega)
  have hu := red_unique hY' hY hc
  rw [hu.2.1, hu.2.2.1]
  rfl
/-- a clip -/
structure Cl where
  len : Int
  kind : Int
  a : Sr
  b : Sr
  off : Int
  tot : Int
  par : Int
  tx : ByteArray
  gain : Int
  ch : List Int
  deriving DecidableEq
def shr (k : Int) : Bool := decide (k = 2 ∨ k = 3)
/-- what would continue a clip -/
def nxt (c : Cl) (n : Int) : Cl := ⟨n, c.kind, mvS c.a c.len, mvS c.b c.len, if shr c.kind then c.off + c.len else c.off, c.tot, c.par, c.tx, c.gain, c.ch⟩
def cont (c d : Cl) : Bool := decide (c.kind = 0 ∧ d.kind = 0) || decide (nxt c d.len = d)
def longer (m : Cl) (n : Int) : Cl := ⟨m.len + n, m.kind, m.a, m.b, m.off, m.tot, m.par, m.tx, m.gain, m.ch⟩
def pkGo : Cl → List Cl → List Cl
  | m, [] => [m]
  | m, c :: l => if cont m c then pkGo (longer m c.len) l else m :: pkGo c l
def pk : List Cl → List Cl
  | [] => []
  | c :: l => pkGo c l
/-- the program looks at the clip before, not at what it was joined to -/
def pkP : Cl → Cl → List Cl → List Cl
  | m, _, [] => [m]
  | m, p, c :: l => if cont p c then pkP (longer m c.len) c l else m :: pkP c c l
/-- what is joined ends as its last part ends -/
def Ends (m p : Cl) : Prop := nxt m 0 = nxt p 0
theorem cont_ends {m p c : Cl} (h : Ends m p) : cont m c = cont p c := by
  unfold Ends at h
  have hk : m.kind = p.kind := (congrArg Cl.kind h :)
  have he : nxt m c.len = nxt p c.len := congrArg (fun x : Cl => (⟨c.len, x.kind, x.a, x.b, x.off, x.tot, x.par, x.tx, x.gain, x.ch⟩ : Cl)) h
  unfold cont
  rw [hk, he]
theorem sum_all : ∀ {l : List Cl} {n : Int}, (∀ c ∈ l, 0 ≤ c.len) → True := fun _ => trivial
/-- the sum of the lengths -/
def tot : List Cl → Int
  | [] => 0
  | c :: l => c.len + tot l
theorem tot_append (a b : List Cl) : tot (a ++ b) = tot a + tot b := by
  induction a with
  | nil => simp [tot]
  | cons c a ih => simp only [List.cons_append, tot, ih]; omega
structure VL (c : Cl) : Prop where
  len : 1 ≤ c.len ∧ c.len ≤ 2147483647
  a : vSr c.a
  b : vSr c.b
  gap : c.kind = 0 → c.a = blkS ∧ c.b = blkS ∧ c.off = 0 ∧ c.tot = 0 ∧ c.par = 0 ∧ c.tx = ⟨#[]⟩ ∧ c.gain = 0 ∧ c.ch = []
theorem ends_join {m p c : Cl} (hm : vSr m.a ∧ vSr m.b) (hl : -4294967296 ≤ m.len ∧ m.len ≤ 4294967296) (hp : VL p) (hc : VL c) (h : Ends m p) (hk : cont p c = true) : Ends (longer m c.len) c := by
  unfold Ends at h ⊢
  have hkind : m.kind = p.kind := (congrArg Cl.kind h :)
  have ha : mvS m.a m.len = mvS p.a p.len := (congrArg Cl.a h :)
  have hb : mvS m.b m.len = mvS p.b p.len := (congrArg Cl.b h :)
  have ho : (if shr m.kind then m.off + m.len else m.off) = (if shr p.kind then p.off + p.len else p.off) := (congrArg Cl.off h :)
  have ht : m.tot = p.tot := (congrArg Cl.tot h :)
  have hpar : m.par = p.par := (congrArg Cl.par h :)
  have htx : m.tx = p.tx := (congrArg Cl.tx h :)
  have hg : m.gain = p.gain := (congrArg Cl.gain h :)
  have hch : m.ch = p.ch := (congrArg Cl.ch h :)
  unfold cont at hk
  rw [Bool.or_eq_true, decide_eq_true_eq, decide_eq_true_eq] at hk
  have key : nxt p c.len = c := by
    rcases hk with ⟨k1, k2⟩ | hk
    · obtain ⟨x1, x2, x3, x4, x5, x6, x7, x8⟩ := hp.gap k1
      obtain ⟨y1, y2, y3, y4, y5, y6, y7, y8⟩ := hc.gap k2
      cases p
      cases c
      simp only at *
      subst x1 x2 x3 x4 x5 x6 x7 x8 y1 y2 y3 y4 y5 y6 y7 y8 k1 k2
      simp [nxt, mvS_blk, shr]
    · exact hk
  have ca : mvS p.a p.len = c.a := (congrArg Cl.a key :)
  have cb : mvS p.b p.len = c.b := (congrArg Cl.b key :)
  have co : (if shr p.kind then p.off + p.len else p.off) = c.off := (congrArg Cl.off key :)
  have ck : p.kind = c.kind := (congrArg Cl.kind key :)
  have ct : p.tot = c.tot := (congrArg Cl.tot key :)
  have cp : p.par = c.par := (congrArg Cl.par key :)
  have cx : p.tx = c.tx := (congrArg Cl.tx key :)
  have cg : p.gain = c.gain := (congrArg Cl.gain key :)
  have cc : p.ch = c.ch := (congrArg Cl.ch key :)
  unfold nxt longer
  simp only [Cl.mk.injEq, true_and]
  refine ⟨by omega, ?_, ?_, ?_, by omega, by omega, by rw [htx, cx], by omega, by rw [hch, cc]⟩
  · rw [← mvS_add hm.1 hl.1 hl.2, ha, ca]
  · rw [← mvS_add hm.2 hl.1 hl.2, hb, cb]
  · have k1 : shr p.kind = shr c.kind := by rw [ck]
    have k2 : shr m.kind = shr c.kind := by rw [hkind, ck]
    rw [k1] at co ho
    rw [k2] at ho ⊢
    cases hh : shr c.kind <;> rw [hh] at co ho <;> simp at co ho ⊢ <;> omega
theorem pkP_eq : ∀ {l : List Cl} {m p : Cl}, vSr m.a ∧ vSr m.b → 0 ≤ m.len → m.len + tot l ≤ 4294967296 → VL p → (∀ c ∈ l, VL c) → Ends m p → pkP m p l = pkGo m l
  | [], m, p, _, _, _, _, _, _ => rfl
  | c :: l, m, p, hm, h0, ht, hp, hl, he => by
    have hc := hl c List.mem_cons_self
    have hl' : ∀ d ∈ l, VL d := fun d hd => hl d (List.mem_cons_of_mem _ hd)
    have htot : 0 ≤ tot l := by
      clear ht
      induction l with
      | nil => exact Int.le_refl _
      | cons d l ih =>
        have := (hl' d List.mem_cons_self).len
        have := ih (fun x hx => hl x (by rcases List.mem_cons.1 hx with rfl | hx; exact List.mem_cons_self; exact List.mem_cons_of_mem _ (List.mem_cons_of_mem _ hx))) (fun x hx => hl' x (List.mem_cons_of_mem _ hx))
        simp only [tot]
        omega
    simp only [tot] at ht
    have hcl := hc.len
    rw [pkP, pkGo, cont_ends he]
    split
    · rename_i hk
      exact pkP_eq (l := l) hm (by unfold longer; simp only; omega) (by unfold longer; simp only; omega) hc hl' (ends_join hm ⟨by omega, by omega⟩ hp hc he hk)
    · rw [pkP_eq (l := l) ⟨hc.a, hc.b⟩ (by omega) (by omega) hc hl' rfl]
/-- the program's packing -/
def pkQ : List Cl → List Cl
  | [] => []
  | c :: l => pkP c c l
theorem pkQ_eq {l : List Cl} (h : ∀ c ∈ l, VL c) (ht : tot l ≤ 4294967296) : pkQ l = pk l := by
  cases l with
  | nil => rfl
  | cons c l =>
    have hc := h c List.mem_cons_self
    exact pkP_eq ⟨hc.a, hc.b⟩ (by have := hc.len; omega) ht hc (fun d hd => h d (List.mem_cons_of_mem _ hd)) rfl
end Go.Proofs.YtgbiodnfpbhjiaaGreatDoor
