/-
  What a carrier is behind a caption that is added: appended, or the caption before it prolonged.
  Conditions: none.
-/
import Derived.Test.YthadhmhbbfjomaaGreatDoorWalkNo
namespace Go.Proofs.YthadhmhbbfjomaaGreatDoor
open Go.RowKit Go.Lib
set_option linter.unusedSimpArgs false
set_option linter.unusedVariables false

/-- a carrier: T is behind all ends -/
structure CarS (W : World) (C b base : Nat) (v : Value) (c : List Cu) (gs : List Nat) (D : DataW Value) (T : Int) : Prop where
  cc : CarC W C b base v c
  m : ∃ n, n ≤ 2 * T.toNat ∧ MapO W b n D
  e : EndsR W base D (c.map cAbs) gs
  top : ∀ x ∈ c, x.t ≤ T
  pos : 0 ≤ T ∧ T < 1000
  ed : EndD (c.map cAbs)
  len : c.length ≤ T.toNat
  bs : base ≤ W.heap.size
/-- the blocks of a carrier -/
def Own (C b : Nat) (v : Value) (gs : List Nat) (k : Nat) : Prop := k = C ∨ k = b ∨ v.ownBlock = some k ∨ k ∈ gs
theorem EndsR.blk {wr : World} {base : Nat} {D : DataW Value} {c : List (Int × Int × List ByteArray)} {gs : List Nat} (h : EndsR wr base D c gs) {g : Nat} (hg : g ∈ gs) : base ≤ g ∧ ∃ vs, Blk wr g 3 vs := by
  obtain ⟨i, hi, rfl⟩ := List.getElem_of_mem hg
  have hic : i < c.length := by rw [← h.len]; exact hi
  obtain ⟨h1, cap, r, _, _, h4⟩ := h.has i c[i] gs[i] (List.getElem?_eq_getElem hic) (List.getElem?_eq_getElem hi)
  exact ⟨h1, _, h4⟩
theorem EndsR.grown {W w : World} {base : Nat} {D : DataW Value} {c : List (Int × Int × List ByteArray)} {gs : List Nat} {r : Option Nat} (h : EndsR W base D c gs) (hg : W.grownBy w r) (hr : ∀ g ∈ gs, r ≠ some g) : EndsR w base D c gs :=
  h.kept fun g hg' T vs hb => hb.grown hg (hr g hg')
theorem EndsR.gr {W w : World} {base : Nat} {D : DataW Value} {c : List (Int × Int × List ByteArray)} {gs : List Nat} (hg : Gr W w) (h : EndsR W base D c gs) : EndsR w base D c gs := h.grown hg.by0 (fun g _ q => by cases q)
theorem CarS.gr {W w : World} {C b base : Nat} {v : Value} {c : List Cu} {gs : List Nat} {D : DataW Value} {T : Int} (hg : Gr W w) (h : CarS W C b base v c gs D T) : CarS w C b base v c gs D T :=
  ⟨h.cc.gr hg, let ⟨n, hn, hm⟩ := h.m; ⟨n, hn, hm.gr hg⟩, h.e.gr hg, h.top, h.pos, h.ed, h.len, Nat.le_trans h.bs hg.size⟩
theorem row_ne {W : World} {base size n g : Nat} {e T : TypeId} {v : Value} {xs vs : List Value} (h : W.ownsRow base e size v n xs) (hb : Blk W g T vs) (hne : T ≠ e) : v.ownBlock ≠ some g := hb.row h hne
theorem endD_set {c : List AC} {i : Nat} {y : AC} {t : Int} (h : EndD c) (hl : ∀ z ∈ c, z.2.1 < t) : EndD (c.set i (y.1, t, y.2.2)) := fun p q x z hp hq he => by
  by_cases h1 : p = i
  · by_cases h2 : q = i
    · omega
    · subst h1
      rw [List.getElem?_set_ne (fun e => h2 e.symm)] at hq
      have hlt := (List.getElem?_eq_some_iff.1 hp).1
      rw [List.getElem?_set_self (by simpa using hlt)] at hp
      injection hp with hp
      have := hl z (List.mem_of_getElem? hq)
      subst hp
      simp at he
      omega
  · rw [List.getElem?_set_ne (fun e => h1 e.symm)] at hp
    by_cases h2 : q = i
    · subst h2
      have hlt := (List.getElem?_eq_some_iff.1 hq).1
      rw [List.getElem?_set_self (by simpa using hlt)] at hq
      injection hq with hq
      have := hl x (List.mem_of_getElem? hp)
      subst hq
      simp at he
      omega
    · rw [List.getElem?_set_ne (fun e => h2 e.symm)] at hq
      exact h p q x z hp hq he
theorem endD_snoc {c : List AC} {y : AC} (h : EndD c) (hl : ∀ z ∈ c, z.2.1 < y.2.1) : EndD (c ++ [y]) := fun p q x z hp hq he => by
  have hin : ∀ (p : Nat) (u : AC), p < c.length → (c ++ [y])[p]? = some u → c[p]? = some u := fun p u hp h => by rwa [List.getElem?_append_left hp] at h
  have hout : ∀ (p : Nat) (u : AC), ¬ p < c.length → (c ++ [y])[p]? = some u → p = c.length ∧ u = y := fun p u hp h => by
    have hlt := (List.getElem?_eq_some_iff.1 h).1
    rw [List.length_append, List.length_singleton] at hlt
    obtain rfl : p = c.length := by omega
    rw [List.getElem?_append_right (Nat.le_refl _), Nat.sub_self] at h
    simp at h
    exact ⟨rfl, h.symm⟩
  by_cases h1 : p < c.length
  · by_cases h2 : q < c.length
    · exact h p q x z (hin p x h1 hp) (hin q z h2 hq) he
    · have := hl x (List.mem_of_getElem? (hin p x h1 hp))
      rw [(hout q z h2 hq).2] at he
      omega
  · by_cases h2 : q < c.length
    · have := hl z (List.mem_of_getElem? (hin q z h2 hq))
      rw [(hout p x h1 hp).2] at he
      omega
    · rw [(hout p x h1 hp).1, (hout q z h2 hq).1]
theorem addA_set {x y : AC} : ∀ {c : List AC} {i : Nat}, c[i]? = some y → EndD c → y.2.1 = x.1 → y.2.2 = x.2.2 → addA x c = c.set i (y.1, x.2.1, y.2.2)
  | [], i, hi, _, _, _ => by simp at hi
  | z :: c, 0, hi, _, h1, h2 => by
    simp at hi
    subst hi
    rw [addA, if_pos ⟨h1, h2⟩, ← h2]
    rfl
  | z :: c, i + 1, hi, hd, h1, h2 => by
    have hne : ¬ (z.2.1 = x.1 ∧ z.2.2 = x.2.2) := fun q => by
      have := hd 0 (i + 1) z y rfl hi (by rw [q.1, h1])
      omega
    rw [addA, if_neg hne, addA_set (c := c) (i := i) (by simpa using hi) (fun p q a b hp hq he => by
      have := hd (p + 1) (q + 1) a b (by simpa using hp) (by simpa using hq) he
      omega) h1 h2]
    rfl
theorem Own.lt_base {C b base : Nat} {v : Value} {gs : List Nat} {W : World} {c : List Cu} {D : DataW Value} {T : Int} (h : CarS W C b base v c gs D T) {k : Nat} (hk : Own C b v gs k) : k < W.heap.size := by
  rcases hk with rfl | rfl | hk | hk
  · exact h.cc.cel.lt
  · exact h.m.choose_spec.2.lt
  · exact (own_base h.cc.cues.own hk).2.1
  · obtain ⟨_, vs, hb⟩ := h.e.blk hk
    exact hb.lt

theorem Own.ge {C b base : Nat} {v : Value} {gs : List Nat} {W : World} {c : List Cu} {D : DataW Value} {T : Int} (h : CarS W C b base v c gs D T) {k : Nat} (hk : Own C b v gs k) : b ≤ k := by
  have hlo := h.cc.lo
  rcases hk with rfl | rfl | hk | hk
  · omega
  · omega
  · have := (own_base h.cc.cues.own hk).1
    omega
  · have := (h.e.blk hk).1
    omega
/-- an appended caption: ahead of its index -/
theorem CarS.midA {w W2 W3 : World} {C b base : Nat} {v v' : Value} {c : List Cu} {gs : List Nat} {D : DataW Value} {T : Int} {x : Cu} (h : CarS w C b base v c gs D T) (hg2 : Gr w W2) (hs : StrsR W2 x.lv x.ss) (hl : LnT W2 x.lv) (hf : FitS x.lv) (hv : Vs x.ss)
    (ho : W3.ownsRow base 57 3 v' (c.length + 1) (flat c ++ x.cells)) (hg : W2.grownBy W3 v.ownBlock) :
    CarC (W3.setCell ⟨C, 0, none⟩ v') C b base v' (c ++ [x]) ∧ (∃ n, n ≤ 2 * T.toNat ∧ MapO (W3.setCell ⟨C, 0, none⟩ v') b n D) ∧ EndsR (W3.setCell ⟨C, 0, none⟩ v') base D (c.map cAbs) gs ∧ Ex (Own C b v gs) w (W3.setCell ⟨C, 0, none⟩ v') := by
  have h2 := h.gr hg2
  have hlo := h.cc.lo
  refine ⟨h2.cc.app hs hl hf hv ho hg, ?_, ?_, ?_⟩
  · obtain ⟨n, hn, hm⟩ := h2.m
    refine ⟨n, hn, (hm.grown hg (fun q => ?_)).other (by show C ≠ b; omega) _⟩
    have := (own_base h2.cc.cues.own q).1
    omega
  · have e3 := h2.e.grown hg fun g hg' q => by
      obtain ⟨_, vs, hb⟩ := h2.e.blk hg'
      exact row_ne h2.cc.cues.own hb (by decide) q
    exact e3.grown (grown_setCell W3 ⟨C, 0, none⟩ v') fun g hg' q => by
      have := (e3.blk hg').1
      have : C = g := by injection q
      omega
  · refine ((Gr.ex hg2).trans (Ex.of hg (O := Own C b v gs) fun k hk => .inr (.inr (.inl hk))) (fun _ _ q => q)).trans (Ex.of (O := Own C b v gs) (grown_setCell W3 ⟨C, 0, none⟩ v') fun k hk => .inl (by injection hk with hk; exact hk.symm)) (fun _ _ q => q)
theorem CarS.endA {w W4 W5 : World} {C b base n gI cI : Nat} {v v' : Value} {c : List Cu} {gs : List Nat} {D : DataW Value} {T : Int} {x : Cu} {r : List Value} (h : CarS w C b base v c gs D T) (hv : Vs x.ss) (hT : T ≤ x.f) (hft : x.f < x.t) (ht : x.t < 1000)
    (hC4 : CarC W4 C b base v' (c ++ [x])) (hn : n ≤ 2 * T.toNat) (hM4 : MapO W4 b n D) (hE4 : EndsR W4 base D (c.map cAbs) gs) (hgN : W4.grownBy W5 (some b)) (hb : Blk W5 gI 3 (.int .i64 (c.length : Nat) :: r)) (hgI : W4.heap.size ≤ gI) (hcI : CapOk cI)
    (hM5 : MapO W5 b (n + 1) (D.put (kLit x.t x.ss) (.held (.slice (some ⟨gI, 0, none⟩) 1 cI)))) (hbs : base ≤ W4.heap.size) :
    CarS W5 C b base v' (c ++ [x]) (gs ++ [gI]) (D.put (kLit x.t x.ss) (.held (.slice (some ⟨gI, 0, none⟩) 1 cI))) x.t := by
  have hlo := h.cc.lo
  have hpos := h.pos
  have hlt : ∀ y ∈ c.map cAbs, y.2.1 < (cAbs x).2.1 := fun y hy => by
    obtain ⟨z, hz, rfl⟩ := List.mem_map.1 hy
    have := h.top z hz
    show z.t < x.t
    omega
  refine ⟨hC4.kept hgN (by omega) (fun cur T' fz q => absurd q hM4.no), ⟨n + 1, by omega, hM5⟩, ?_, fun y hy => ?_, ⟨by omega, ht⟩, ?_, ?_, Nat.le_trans hbs hgN.size⟩
  · rw [List.map_append, List.map_singleton]
    refine EndsR.app (x := cAbs x) (hE4.grown hgN fun g hg q => ?_) hM4.isMap (show KeyOk x.t x.ss from hv.key (by omega) ht) hlt (by simpa using hb) (fun hm => ?_) (by omega) hcI
    · have := (hE4.blk hg).1
      have : b = g := by injection q
      omega
    · obtain ⟨_, vs, hb'⟩ := hE4.blk hm
      have := hb'.lt
      omega
  · rcases List.mem_append.1 hy with hy | hy
    · have := h.top y hy
      omega
    · rw [List.mem_singleton.1 hy]
      exact Int.le_refl _
  · rw [List.map_append, List.map_singleton]
    exact endD_snoc h.ed hlt
  · have := h.len
    rw [List.length_append, List.length_singleton]
    omega
/-- a prolonged caption: its old index is taken out -/
theorem CarS.midB {W1 W2 W3 : World} {C b base gi : Nat} {v : Value} {c : List Cu} {gs : List Nat} {D : DataW Value} {T : Int} (h : CarS W1 C b base v c gs D T) (hgi : gi ∈ gs) (hgD : W1.grownBy W2 (some gi)) (hg3 : W2.grownBy W3 (some b)) :
    CarC W3 C b base v c ∧ (∀ g, g ∈ gs → g ≠ gi → ∀ T vs, Blk W1 g T vs → Blk W3 g T vs) ∧ (∀ n D, MapO W1 b n D → MapO W2 b n D) ∧ Ex (Own C b v gs) W1 W3 := by
  obtain ⟨hbg, vs, hb⟩ := h.e.blk hgi
  have hlo := h.cc.lo
  have hM2 : ∀ n D, MapO W1 b n D → MapO W2 b n D := fun n D hm => hm.grown hgD (fun q => by have : gi = b := by injection q
                                                                                             omega)
  refine ⟨(h.cc.kept hgD (by omega) (fun cur T' fz q => ?_)).kept hg3 (by omega) (fun cur T' fz q => ?_), fun g hg hne T' us hu => ?_, hM2, ?_⟩
  · unfold Blk at hb
    rw [hb] at q
    injection q with q
    injection q with q1 q2 q3
    subst q2
    exact ⟨by decide, by decide⟩
  · obtain ⟨n, _, hm⟩ := h.m
    exact absurd q (hM2 _ _ hm).no
  · refine (hu.grown hgD (fun q => hne (by injection q with q; exact q.symm))).grown hg3 (fun q => ?_)
    have := (h.e.blk hg).1
    have : b = g := by injection q
    omega
  · exact (Ex.of (O := Own C b v gs) hgD fun k hk => .inr (.inr (.inr (by injection hk with hk; rw [← hk]; exact hgi)))).trans (Ex.of (O := Own C b v gs) hg3 fun k hk => .inr (.inl (by injection hk with hk; exact hk.symm))) (fun _ _ q => q)
theorem CarS.endB {w W4 W5 : World} {C b base n gI cI i cap0 : Nat} {a0 : Option Addr} {v : Value} {c : List Cu} {gs : List Nat} {D : DataW Value} {T t : Int} {y : Cu} {r : List Value} (h : CarS w C b base v c gs D T) (hi : c[i]? = some y) (hT : T < t) (ht : t < 1000)
    (hC4 : CarC W4 C b base v (c.set i ⟨y.f, t, y.lv, y.ss⟩)) (hk4 : ∀ j g, j ≠ i → gs[j]? = some g → ∀ T vs, Blk w g T vs → Blk W4 g T vs) (hn : n ≤ 2 * T.toNat) (hM4 : MapO W4 b (n + 1) (D.put (kLit y.t y.ss) (.held (.slice a0 0 cap0))))
    (hgN : W4.grownBy W5 (some b)) (hb : Blk W5 gI 3 (.int .i64 (i : Nat) :: r)) (hgI : W4.heap.size ≤ gI) (hcI : CapOk cI)
    (hM5 : MapO W5 b (n + 1 + 1) ((D.put (kLit y.t y.ss) (.held (.slice a0 0 cap0))).put (kLit t y.ss) (.held (.slice (some ⟨gI, 0, none⟩) 1 cI)))) (hs4 : w.heap.size ≤ W4.heap.size) :
    CarS W5 C b base v (c.set i ⟨y.f, t, y.lv, y.ss⟩) (gs.set i gI) ((D.put (kLit y.t y.ss) (.held (.slice a0 0 cap0))).put (kLit t y.ss) (.held (.slice (some ⟨gI, 0, none⟩) 1 cI))) t := by
  have hlo := h.cc.lo
  have hpos := h.pos
  have hyv := (h.cc.lns y (List.mem_of_getElem? hi)).2.2
  have hia : (c.map cAbs)[i]? = some (cAbs y) := by rw [List.getElem?_map, hi]; rfl
  have hlt : ∀ z ∈ c.map cAbs, z.2.1 < t := fun z hz => by
    obtain ⟨u, hu, rfl⟩ := List.mem_map.1 hz
    have := h.top u hu
    show u.t < t
    omega
  have hset : (c.set i ⟨y.f, t, y.lv, y.ss⟩).map cAbs = (c.map cAbs).set i ((cAbs y).1, t, (cAbs y).2.2) := by rw [List.map_set]; rfl
  obtain ⟨n0, hn0, hm0⟩ := h.m
  refine ⟨hC4.kept hgN (by omega) (fun cur T' fz q => absurd q hM4.no), ⟨n + 1 + 1, by omega, hM5⟩, ?_, fun z hz => ?_, ⟨by omega, ht⟩, ?_, ?_, by have := h.bs; have := hgN.size; omega⟩
  · rw [hset]
    refine EndsR.move (y := cAbs y) (t := t) h.e hm0.isMap hM4.isMap hia h.ed (show KeyOk t y.ss from hyv.key (by omega) ht) hlt (fun j g hj hg T' vs hb' => ?_) hb (fun hm => ?_) (by have := h.bs; omega) hcI
    · refine (hk4 j g hj hg T' vs hb').grown hgN (fun q => ?_)
      have := (h.e.blk (List.mem_of_getElem? hg)).1
      have : b = g := by injection q
      omega
    · obtain ⟨_, vs, hb'⟩ := h.e.blk hm
      have := hb'.lt
      omega
  · rcases List.mem_or_eq_of_mem_set hz with hz | hz
    · have := h.top z hz
      omega
    · rw [hz]
      exact Int.le_refl _
  · rw [hset]
    exact endD_set h.ed hlt
  · have := h.len
    rw [List.length_set]
    omega
end Go.Proofs.YthadhmhbbfjomaaGreatDoor
