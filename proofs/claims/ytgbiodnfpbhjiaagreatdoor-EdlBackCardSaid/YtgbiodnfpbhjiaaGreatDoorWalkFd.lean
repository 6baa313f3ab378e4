/-
  Contract of the tape of choices: a clip.
  Conditions: the tape's numbers lie in memory.
-/
import Derived.Test.YtgbiodnfpbhjiaaGreatDoorWalkFb
import Derived.Laws.Tables
import Derived.Laws.Rows
namespace Go.Proofs.YtgbiodnfpbhjiaaGreatDoor
open Go.RowKit Go.Lib
set_option linter.unusedSimpArgs false
set_option linter.unusedVariables false

/-- a made clip: small numbers, no channels -/
structure ClM (c : Cl) : Prop where
  len : 1 ≤ c.len ∧ c.len ≤ 9
  kind : 0 ≤ c.kind ∧ c.kind ≤ 5
  a : SrM c.a
  b : SrM c.b
  off : 0 ≤ c.off ∧ c.off ≤ 2
  tot : 0 ≤ c.tot ∧ c.tot ≤ 20
  par : 0 ≤ c.par ∧ c.par ≤ 255
  tx : c.tx.size ≤ 100
  gain : c.gain = 0
  ch : c.ch = []
abbrev clV (len kind : Int) (a b : Sr) (off tt par : Int) (tx : ByteArray) : List Value := [.int .i64 len, .int .i64 kind, .int .i64 a.k, .string a.nm, .int .i64 a.an, .int .i64 a.ad, .int .i64 a.sn, .int .i64 a.sd, .bool a.sm,
  .int .i64 b.k, .string b.nm, .int .i64 b.an, .int .i64 b.ad, .int .i64 b.sn, .int .i64 b.sd, .bool b.sm, .int .i64 off, .int .i64 tt, .int .i64 par, .string tx, .int .i64 0, .slice none 0 0]
abbrev zCl : List Value := [.int .i64 0, .int .i64 0, .int .i64 0, .string ⟨#[]⟩, .int .i64 0, .int .i64 0, .int .i64 0, .int .i64 0, .bool false, .int .i64 0, .string ⟨#[]⟩, .int .i64 0, .int .i64 0, .int .i64 0, .int .i64 0, .bool false, .int .i64 0, .int .i64 0, .int .i64 0, .string ⟨#[]⟩, .int .i64 0, .slice none 0 0]
theorem infoClip' : (Tryz.prog.info? 81).map (·.size) = some 22 := by kernel_rfl
theorem ClM.of {len kd o t p : Int} {a b : Sr} {tx : ByteArray} (h1 : 1 ≤ len ∧ len ≤ 9) (h2 : 0 ≤ kd ∧ kd ≤ 5) (h3 : SrM a) (h4 : SrM b) (h5 : 0 ≤ o ∧ o ≤ 2) (h6 : 0 ≤ t ∧ t ≤ 20) (h7 : 0 ≤ p ∧ p ≤ 255) (h8 : tx.size ≤ 100) : ClM ⟨len, kd, a, b, o, t, p, tx, 0, []⟩ := ⟨h1, h2, h3, h4, h5, h6, h7, h8, rfl, rfl⟩
/-- the tape, the result's box, the clip's box -/
structure Cb (w : World) (T : Nat) (a : Option Addr) (cap : Nat) (xs : List Int) (k Z : Nat) (l : List Value) (wx : World) : Prop where
  by_ : ByT w T wx
  tp : Tape wx T a cap xs k
  res : Blk wx w.heap.size 81 zCl
  box : Blk wx Z 81 l
theorem Cb.set {w : World} {T : Nat} {a : Option Addr} {cap : Nat} {xs : List Int} {k k0 Z : Nat} {l : List Value} {wx : World} (h : Cb w T a cap xs k Z l wx) (h0 : Tape w T a cap xs k0) (hZ : w.heap.size < Z) (i : Nat) (u : Value) : Cb w T a cap xs k Z (l.set i u) (wx.setCell ⟨Z, i, none⟩ u) := by
  have hl := h0.cel.lt
  exact ⟨h.by_.set (by simp only; omega) u, Tape.later h0 (grown_setCell _ _ _) (fun h => by injection h with h; simp only at h; omega) (fun k h => by injection h with h; simp only at h; omega) h.tp, h.res.other (by simp only; omega) u, h.box.set i u⟩
theorem Cb.call {w : World} {T : Nat} {a : Option Addr} {cap : Nat} {xs : List Int} {k k0 k' Z : Nat} {l : List Value} {wx wy : World} (h : Cb w T a cap xs k Z l wx) (h0 : Tape w T a cap xs k0) (hZ : w.heap.size < Z) (hg : wx.grownBy wy (some T)) (hT : Tape wy T a cap xs k') : Cb w T a cap xs k' Z l wy := by
  have hl := h0.cel.lt
  exact ⟨h.by_.step hg (fun k h => by injection h with h; exact .inl h.symm), hT, h.res.grown hg (fun e => by injection e with e; omega), h.box.grown hg (fun e => by injection e with e; omega)⟩
theorem Cb.gr {w : World} {T : Nat} {a : Option Addr} {cap : Nat} {xs : List Int} {k Z : Nat} {l : List Value} {wx wy : World} (h : Cb w T a cap xs k Z l wx) (hg : Gr wx wy) : Cb w T a cap xs k Z l wy :=
  ⟨h.by_.gr hg, h.tp.gr hg, h.res.gr hg, h.box.gr hg⟩
abbrev kindsV : List Value := [.int .i64 1, .int .i64 1, .int .i64 1, .int .i64 0, .int .i64 2, .int .i64 3, .int .i64 4, .int .i64 5]
theorem kind_at {W : World} {G rn : Nat} (h : Cel W G kindsV) (hr : rn < 8) : ∃ n : Int, 0 ≤ n ∧ n ≤ 5 ∧ W.cell? ⟨G, rn, none⟩ = some (.int .i64 n) := by
  rcases (show rn = 0 ∨ rn = 1 ∨ rn = 2 ∨ rn = 3 ∨ rn = 4 ∨ rn = 5 ∨ rn = 6 ∨ rn = 7 by omega) with rfl | rfl | rfl | rfl | rfl | rfl | rfl | rfl
  · exact ⟨1, by omega, by omega, (h.2 0 _ rfl).1⟩
  · exact ⟨1, by omega, by omega, (h.2 1 _ rfl).1⟩
  · exact ⟨1, by omega, by omega, (h.2 2 _ rfl).1⟩
  · exact ⟨0, by omega, by omega, (h.2 3 _ rfl).1⟩
  · exact ⟨2, by omega, by omega, (h.2 4 _ rfl).1⟩
  · exact ⟨3, by omega, by omega, (h.2 5 _ rfl).1⟩
  · exact ⟨4, by omega, by omega, (h.2 6 _ rfl).1⟩
  · exact ⟨5, by omega, by omega, (h.2 7 _ rfl).1⟩
abbrev textsV : List Value := [.string ⟨#[65]⟩, .string ⟨#[82, 69, 69, 76, 32, 55]⟩, .string ⟨#[116, 104, 101, 32, 101, 110, 100, 46]⟩, .string ⟨#[49, 50, 58, 51, 48]⟩]
theorem text_at {W : World} {G rn : Nat} (h : Cel W G textsV) (hr : rn < 4) : ∃ s : ByteArray, s.size ≤ 100 ∧ W.cell? ⟨G, rn, none⟩ = some (.string s) := by
  rcases (show rn = 0 ∨ rn = 1 ∨ rn = 2 ∨ rn = 3 by omega) with rfl | rfl | rfl | rfl
  · exact ⟨_, by decide, (h.2 0 _ rfl).1⟩
  · exact ⟨_, by decide, (h.2 1 _ rfl).1⟩
  · exact ⟨_, by decide, (h.2 2 _ rfl).1⟩
  · exact ⟨_, by decide, (h.2 3 _ rfl).1⟩
theorem clV_one (len kind : Int) (a b : Sr) (off tt par : Int) (tx : ByteArray) : ∀ v ∈ clV len kind a b off tt par tx, v.oneCell' = true := by
  intro v hm
  simp only [List.mem_cons, List.not_mem_nil, or_false] at hm
  rcases hm with rfl | rfl | rfl | rfl | rfl | rfl | rfl | rfl | rfl | rfl | rfl | rfl | rfl | rfl | rfl | rfl | rfl | rfl | rfl | rfl | rfl | rfl <;> rfl
theorem one_all {l : List Value} (h : ∀ v ∈ l, v.oneCell' = true) : l.toArray.all (·.oneCell') = true :=
  Array.all_eq_true_iff_forall_mem.2 (fun v hv => h v (by simpa using hv))
theorem Cb.row {w : World} {T : Nat} {a : Option Addr} {cap : Nat} {xs : List Int} {k k0 Z : Nat} {l : List Value} {wx : World} (h : Cb w T a cap xs k Z l wx) (h0 : Tape w T a cap xs k0) (l' : List Value) : ByT w T (wx.setRow w.heap.size l'.toArray) ∧ Tape (wx.setRow w.heap.size l'.toArray) T a cap xs k ∧ Blk (wx.setRow w.heap.size l'.toArray) w.heap.size 81 l' := by
  have hl := h0.cel.lt
  exact ⟨h.by_.step (grown_setRow wx w.heap.size l'.toArray) (fun k h => by injection h with h; exact .inr (by omega)), Tape.later h0 (grown_setRow wx w.heap.size l'.toArray) (fun h => by injection h with h; omega) (fun k h => by injection h with h; omega) h.tp, h.res.setRow l'⟩
set_option maxRecDepth 20000 in
set_option maxHeartbeats 8000000 in
theorem clip_any (T : Nat) (a : Option Addr) (cap : Nat) (xs : List Int) (k : Nat) (w : World) (hT : Tape w T a cap xs k) (hk : k ≤ 5000) :
    Calls Tryz.prog 93 #[.pointer (some ⟨T, 0, none⟩), .int .i64 3, .int .i64 2] w fun e w' => ∃ (c : Cl) (k' : Nat), e = .returned (.agg (CM.mk c (.slice none 0 0)).cells.toArray) ∧ ClM c ∧ ByT w T w' ∧ Tape w' T a cap xs k' ∧ k ≤ k' ∧ k' ≤ k + 20 := by
  have HN : Hid (∀ (w' : World) (k' : Nat) (n : Int), Tape w' T a cap xs k' → k' ≤ 1000000 → 1 ≤ n → n ≤ 2147483647 → Calls Tryz.prog 33 #[.pointer (some ⟨T, 0, none⟩), .int .i64 n] w' fun e w'' => ∃ r : Int, e = .returned (.int .i64 r) ∧ 0 ≤ r ∧ r < n ∧ w'.grownBy w'' (some T) ∧ Tape w'' T a cap xs (k' + 1)) := fun w' k' n h1 h2 h3 h4 => next_any T a cap xs k' n w' h1 h2 h3 h4
  have HS : Hid (∀ (w' : World) (k' : Nat), Tape w' T a cap xs k' → k' ≤ 10000 → Calls Tryz.prog 124 #[.pointer (some ⟨T, 0, none⟩), .int .i64 3, .int .i64 2] w' fun e w'' => ∃ (s : Sr) (k'' : Nat), e = .returned (.agg #[.int .i64 s.k, .string s.nm, .int .i64 s.an, .int .i64 s.ad, .int .i64 s.sn, .int .i64 s.sd, .bool s.sm]) ∧ SrM s ∧ ByT w' T w'' ∧ Tape w'' T a cap xs k'' ∧ k' ≤ k'' ∧ k'' ≤ k' + 6) := Lib.hid fun w' k' h1 h2 => source_any T a cap xs k' w' h1 h2
  have hTl := hT.cel.lt
  have hT0 := Lib.hid hT
  have hr := Blk.new w zCl 81
  have hgA : Gr w (w.alloc (.cells zCl.toArray 81)) := (Gr.refl w).alloc _
  simp only [List.toArray] at hr hgA
  go_enter Tryz.func93, Tryz.ntmps93
  go_upto_region 1 with fail
  have hT1 := hT.gr hgA
  have hB1 := (ByT.refl w T).gr hgA
  clear hT hgA
  generalize w.alloc (.cells #[.int .i64 0, .int .i64 0, .int .i64 0, .string ⟨#[]⟩, .int .i64 0, .int .i64 0, .int .i64 0, .int .i64 0, .bool false, .int .i64 0, .string ⟨#[]⟩, .int .i64 0, .int .i64 0, .int .i64 0, .int .i64 0, .bool false, .int .i64 0, .int .i64 0, .int .i64 0, .string ⟨#[]⟩, .int .i64 0, .slice none 0 0] 81) = W at *
  have hl1 := hr.lt
  go_upto_region 2 with (first
    | (go_at_call 33; (with_reducible refine (HN.out W k 9 hT1 ?_ ?_ ?_).mono ?_); (· omega); (· omega); (· omega); rintro e w2 ⟨q, rfl, q0, q9, hg2, hT2⟩; have hgS : Gr w2 (w2.alloc (.cells #[.int .i64 1, .int .i64 1, .int .i64 1, .int .i64 0, .int .i64 2, .int .i64 3, .int .i64 4, .int .i64 5] 3)) := (Gr.refl w2).alloc _; have hc2 := Cel.new w2 kindsV.toArray 3)
    | (go_at_call 33; (with_reducible refine (HN.out _ (k + 1) 8 (hT2.gr hgS) ?_ ?_ ?_).mono ?_); (· omega); (· omega); (· omega); rintro e w3 ⟨r, rfl, r0, r8, hg3, hT3⟩; obtain ⟨rn, rfl⟩ : ∃ rn : Nat, r = rn := ⟨r.toNat, by omega⟩; have hz2 := World.grownBy.size hg2; have hc3 := Cel.grown hg3 (fun e => by injection e with e; omega) hc2; have cl := hc3.lt; obtain ⟨kd, kd0, kd5, e0⟩ := kind_at hc3 (show rn < 8 by omega); have hrl : rn < 8 := (by omega); obtain ⟨LL, hLL⟩ : ∃ LL : List Value, clV (1 + q) kd blkS blkS 0 0 0 ⟨#[]⟩ = LL := ⟨_, rfl⟩; have hl22 : LL.length = 22 := (by rw [← hLL]; rfl); have hone : ∀ v ∈ LL, v.oneCell' = true := (by rw [← hLL]; exact clV_one _ _ _ _ _ _ _ _); have st := st_new (P := Tryz.prog) w3 81 #[.int .i64 0, .int .i64 0, .int .i64 0, .string ⟨#[]⟩, .int .i64 0, .int .i64 0, .int .i64 0, .int .i64 0, .bool false, .int .i64 0, .string ⟨#[]⟩, .int .i64 0, .int .i64 0, .int .i64 0, .int .i64 0, .bool false, .int .i64 0, .int .i64 0, .int .i64 0, .string ⟨#[]⟩, .int .i64 0, .slice none 0 0] LL (by rw [hl22]; exact infoClip') (by rw [hl22]; rfl) hone; replace hLL := Lib.hid hLL)
    | (refine wpList_buildTo rfl 81 #[(0, .tmp 10), (1, .tmp 15)] rfl (some 16) rfl LL.toArray (by rw [← hLL.out]; kernel_rfl) ?_))
  have hCL : Cb w T a cap xs (k + 2) w3.heap.size (clV (1 + q) kd blkS blkS 0 0 0 ⟨#[]⟩) (w3.alloc (.cells LL.toArray 81)) := by
    have hg : Gr w3 (w3.alloc (.cells LL.toArray 81)) := (Gr.refl w3).alloc _
    refine ⟨(((hB1.step hg2 (fun k h => by injection h with h; exact .inl h.symm)).gr hgS).step hg3 (fun k h => by injection h with h; exact .inl h.symm)).gr hg, hT3.gr hg, (((hr.grown hg2 (fun e => by injection e with e; omega)).gr hgS).grown hg3 (fun e => by injection e with e; omega)).gr hg, ?_⟩
    rw [hLL.out]
    exact Blk.new w3 LL 81
  have hZ : w.heap.size < w3.heap.size := by omega
  generalize w3.alloc (.cells LL.toArray 81) = W3 at *
  obtain ⟨Z, hZe⟩ : ∃ Z, w3.heap.size = Z := ⟨_, rfl⟩
  rw [hZe] at hCL hZ ⊢
  obtain ⟨len, hlen⟩ : ∃ len, 1 + q = len := ⟨_, rfl⟩
  rw [hlen] at hCL ⊢
  have hlen1 : 1 ≤ len ∧ len ≤ 9 := by omega
  clear hLL hl22 hone st hZe hB1 hT1 hg2 hT2 hgS hc2 hg3 hT3 hz2 hc3 cl e0 hr
  have y := hCL.box.lt
  have y1 := (hCL.box.cel.2 1 _ rfl).1
  by_cases c0 : kd = 0
  · subst c0
    obtain ⟨LT, hLT⟩ : ∃ LT : List Value, clV len 0 blkS blkS 0 0 0 ⟨#[]⟩ = LT := ⟨_, rfl⟩
    have hl22 : LT.length = 22 := by rw [← hLT]; rfl
    have hone : ∀ v ∈ LT, v.oneCell' = true := by rw [← hLT]; exact clV_one _ _ _ _ _ _ _ _
    have hbox := hCL.box
    rw [hLT] at hbox
    have st := st_blk (P := Tryz.prog) hCL.res (by rw [hl22]; rfl) hone
    obtain ⟨hrB, hrT, hrR⟩ := hCL.row hT0.out LT
    obtain ⟨kz, hkz⟩ : ∃ kz, 22 = kz := ⟨_, rfl⟩
    have lb := ld_blk (P := Tryz.prog) (hl22.trans hkz) hrR
    replace hLT := Lib.hid hLT
    go_wp2_with (refine wpList_load_row rfl 81 (.tmp 7) rfl Z rfl 81 LT.toArray (0, 0) _ hbox Tryz.underlying81 rfl (by rw [List.size_toArray, hl22]; exact infoClip') ?_)
    have aE : ∀ w, (isAgg 81).run Tryz.prog w = .ok true w := Tryz.isAgg81
    have zE : ∀ w, (Go.sizeOf 81).run Tryz.prog w = .ok kz w := fun w => by rw [← hkz]; exact Tryz.sizeOf81 w
    simp [bodyPost, results, Tryz.results93, go_sem, aE, zE, lb]
    exact ⟨⟨len, 0, blkS, blkS, 0, 0, 0, ⟨#[]⟩, 0, []⟩, hLT.out.symm, ClM.of hlen1 (by omega) SrM.blk SrM.blk (by omega) (by omega) (by omega) (by decide), hrB, _, hrT, by omega, by omega⟩
  · have q1 : (kd == 0) = false := by simp [c0]
    have hZT : T < Z := by omega
    go_upto_region 5 with (go_at_call 124; (with_reducible refine (HS.out _ _ hCL.tp ?_).mono ?_); (· omega); rintro e w4 ⟨s, k4, rfl, hs, hgw4, hTw4, k4a, k4b⟩; have hD := hCL.call hT0.out hZ hgw4 hTw4; have v := hD.box.lt; obtain ⟨v0, g0⟩ := hD.box.cel.2 2 _ rfl; obtain ⟨v1, g1⟩ := hD.box.cel.2 3 _ rfl; obtain ⟨v2, g2⟩ := hD.box.cel.2 4 _ rfl; obtain ⟨v3, g3⟩ := hD.box.cel.2 5 _ rfl; obtain ⟨v4, g4⟩ := hD.box.cel.2 6 _ rfl; obtain ⟨v5, g5⟩ := hD.box.cel.2 7 _ rfl; obtain ⟨v6, g6⟩ := hD.box.cel.2 8 _ rfl)
    have hC4 := ((((((hD.set hT0.out hZ 2 (.int .i64 s.k)).set hT0.out hZ 3 (.string s.nm)).set hT0.out hZ 4 (.int .i64 s.an)).set hT0.out hZ 5 (.int .i64 s.ad)).set hT0.out hZ 6 (.int .i64 s.sn)).set hT0.out hZ 7 (.int .i64 s.sd)).set hT0.out hZ 8 (.bool s.sm)
    simp only [clV, List.set_cons_succ, List.set_cons_zero] at hC4
    replace hC4 : Cb w T a cap xs k4 Z (clV len kd s blkS 0 0 0 ⟨#[]⟩) _ := hC4
    clear hD v v0 v1 v2 v3 v4 v5 v6 g0 g1 g2 g3 g4 g5 g6 hgw4 hTw4
    generalize ((((((w4.setCell ⟨Z, 2, none⟩ (.int .i64 s.k)).setCell ⟨Z, 3, none⟩ (.string s.nm)).setCell ⟨Z, 4, none⟩ (.int .i64 s.an)).setCell ⟨Z, 5, none⟩ (.int .i64 s.ad)).setCell ⟨Z, 6, none⟩ (.int .i64 s.sn)).setCell ⟨Z, 7, none⟩ (.int .i64 s.sd)).setCell ⟨Z, 8, none⟩ (.bool s.sm) = W4 at *
    clear hCL y y1
    have y := hC4.box.lt
    have y1 := (hC4.box.cel.2 1 _ rfl).1
    rcases (show kd = 1 ∨ kd = 2 ∨ kd = 3 ∨ kd = 4 ∨ kd = 5 by omega) with rfl | rfl | rfl | rfl | rfl
    · skip
      go_upto_region 18 with fail
      obtain ⟨LT, hLT⟩ : ∃ LT : List Value, clV len 1 s blkS 0 0 0 ⟨#[]⟩ = LT := ⟨_, rfl⟩
      have hl22 : LT.length = 22 := by rw [← hLT]; rfl
      have hone : ∀ v ∈ LT, v.oneCell' = true := by rw [← hLT]; exact clV_one _ _ _ _ _ _ _ _
      have hbox := hC4.box
      rw [hLT] at hbox
      have st := st_blk (P := Tryz.prog) hC4.res (by rw [hl22]; rfl) hone
      obtain ⟨hrB, hrT, hrR⟩ := hC4.row hT0.out LT
      obtain ⟨kz, hkz⟩ : ∃ kz, 22 = kz := ⟨_, rfl⟩
      have lb := ld_blk (P := Tryz.prog) (hl22.trans hkz) hrR
      replace hLT := Lib.hid hLT
      go_wp2_with (refine wpList_load_row rfl 81 (.tmp 7) rfl Z rfl 81 LT.toArray (0, 0) _ hbox Tryz.underlying81 rfl (by rw [List.size_toArray, hl22]; exact infoClip') ?_)
      have aE : ∀ w, (isAgg 81).run Tryz.prog w = .ok true w := Tryz.isAgg81
      have zE : ∀ w, (Go.sizeOf 81).run Tryz.prog w = .ok kz w := fun w => by rw [← hkz]; exact Tryz.sizeOf81 w
      simp [bodyPost, results, Tryz.results93, go_sem, aE, zE, lb]
      exact ⟨⟨len, 1, s, blkS, 0, 0, 0, ⟨#[]⟩, 0, []⟩, hLT.out.symm, ClM.of hlen1 (by omega) hs SrM.blk (by omega) (by omega) (by omega) (by decide), hrB, _, hrT, by omega, by omega⟩
    · skip
      go_upto_region 9 with (go_at_call 124; (with_reducible refine (HS.out _ _ hC4.tp ?_).mono ?_); (· omega); rintro e w5 ⟨t, k5, rfl, ht, hgw5, hTw5, k5a, k5b⟩; have hD := hC4.call hT0.out hZ hgw5 hTw5; have v := hD.box.lt; obtain ⟨v0, g0⟩ := hD.box.cel.2 9 _ rfl; obtain ⟨v1, g1⟩ := hD.box.cel.2 10 _ rfl; obtain ⟨v2, g2⟩ := hD.box.cel.2 11 _ rfl; obtain ⟨v3, g3⟩ := hD.box.cel.2 12 _ rfl; obtain ⟨v4, g4⟩ := hD.box.cel.2 13 _ rfl; obtain ⟨v5, g5⟩ := hD.box.cel.2 14 _ rfl; obtain ⟨v6, g6⟩ := hD.box.cel.2 15 _ rfl)
      have hC5 := ((((((hD.set hT0.out hZ 9 (.int .i64 t.k)).set hT0.out hZ 10 (.string t.nm)).set hT0.out hZ 11 (.int .i64 t.an)).set hT0.out hZ 12 (.int .i64 t.ad)).set hT0.out hZ 13 (.int .i64 t.sn)).set hT0.out hZ 14 (.int .i64 t.sd)).set hT0.out hZ 15 (.bool t.sm)
      simp only [clV, List.set_cons_succ, List.set_cons_zero] at hC5
      replace hC5 : Cb w T a cap xs k5 Z (clV len 2 s t 0 0 0 ⟨#[]⟩) _ := hC5
      clear hD v v0 v1 v2 v3 v4 v5 v6 g0 g1 g2 g3 g4 g5 g6 hgw5 hTw5
      generalize ((((((w5.setCell ⟨Z, 9, none⟩ (.int .i64 t.k)).setCell ⟨Z, 10, none⟩ (.string t.nm)).setCell ⟨Z, 11, none⟩ (.int .i64 t.an)).setCell ⟨Z, 12, none⟩ (.int .i64 t.ad)).setCell ⟨Z, 13, none⟩ (.int .i64 t.sn)).setCell ⟨Z, 14, none⟩ (.int .i64 t.sd)).setCell ⟨Z, 15, none⟩ (.bool t.sm) = W5 at *
      clear hC4 y y1
      go_upto_region 10 with (go_at_call 33; (with_reducible refine (HN.out _ _ 3 hC5.tp ?_ ?_ ?_).mono ?_); (· omega); (· omega); (· omega); rintro e w6 ⟨o, rfl, o0, o1, hgw6, hTw6⟩; have hD := hC5.call hT0.out hZ hgw6 hTw6; have v := hD.box.lt; obtain ⟨v0, g0⟩ := hD.box.cel.2 16 _ rfl)
      have hC6 := hD.set hT0.out hZ 16 (.int .i64 o)
      simp only [clV, List.set_cons_succ, List.set_cons_zero] at hC6
      replace hC6 : Cb w T a cap xs (k5 + 1) Z (clV len 2 s t o 0 0 ⟨#[]⟩) _ := hC6
      clear hD v v0 g0 hgw6 hTw6
      generalize w6.setCell ⟨Z, 16, none⟩ (.int .i64 o) = W6 at *
      clear hC5
      refine wp_region_still (Keep 5 (fun y => Blk y Z 81 (clV len 2 s t o 0 0 ⟨#[]⟩))) 10 rfl (by kernel_rfl) ?_
      show stillAny _ _ _ _ _ _ #[false, false, false, false, false, false, false, false, false, false] _ _
      have hC7 := hC6.gr ((Gr.refl W6).drew)
      clear hC6
      generalize W6.drew = W7 at *
      have hbx := hC7.box
      refine still_pure 0 (v := .pointer (some ⟨Z, 16, none⟩)) rfl (by kernel_rfl) (by kernel_rfl) (by kernel_rfl) (fun _ => hbx) rfl (fun w hw => ?_) ?_
      · simp [execOp, go_sem] <;> (intros; omega)
      simp only [Act.put, List.setIfInBounds_toArray, List.set_cons_succ, List.set_cons_zero]
      refine still_pure 1 (v := .int .i64 o) rfl (by kernel_rfl) (by kernel_rfl) (by kernel_rfl) (fun _ => hbx) rfl (fun w hw => ?_) ?_
      · replace hw := hw (by decide)
        have hq0 := hw.lt
        have hq1 := (hw.cel.2 16 _ rfl).1
        (try simp at hq0 hq1)
        simp [execOp, go_sem, hq0, hq1]
      simp only [Act.put, List.setIfInBounds_toArray, List.set_cons_succ, List.set_cons_zero]
      refine still_pure 2 (v := .pointer (some ⟨Z, 0, none⟩)) rfl (by kernel_rfl) (by kernel_rfl) (by kernel_rfl) (fun _ => hbx) rfl (fun w hw => ?_) ?_
      · simp [execOp, go_sem] <;> (intros; omega)
      simp only [Act.put, List.setIfInBounds_toArray, List.set_cons_succ, List.set_cons_zero]
      refine still_pure 3 (v := .int .i64 len) rfl (by kernel_rfl) (by kernel_rfl) (by kernel_rfl) (fun _ => hbx) rfl (fun w hw => ?_) ?_
      · replace hw := hw (by decide)
        have hq0 := hw.lt
        have hq1 := (hw.cel.2 0 _ rfl).1
        (try simp at hq0 hq1)
        simp [execOp, go_sem, hq0, hq1]
      simp only [Act.put, List.setIfInBounds_toArray, List.set_cons_succ, List.set_cons_zero]
      have hwr : IntKind.i64.wrap (o + len) = o + len := by rw [IntKind.wrap_i64]; omega
      refine still_pure 4 (v := .int .i64 (o + len)) rfl (by kernel_rfl) (by kernel_rfl) (by kernel_rfl) (fun _ => hbx) rfl (fun wy hw => ?_) ?_
      · simp [execOp, go_sem, hwr]
      simp only [Act.put, List.setIfInBounds_toArray, List.set_cons_succ, List.set_cons_zero]
      refine still_pick [5] (by kernel_rfl) (by decide) ?_
      intro i hi
      obtain rfl : i = 5 := by simpa using hi
      refine still_one (by first | (simp only [List.getElem?_toArray, List.getElem?_cons_succ, List.getElem?_cons_zero]; rfl) | rfl) (fun R hR => ?_)
      (try simp only [List.getElem_toArray, List.getElem_cons_succ, List.getElem_cons_zero])
      go_wp2_with fail
      refine only_normal (hR _ _ (Keep.step (fun h => h)) ?_)
      clear hR R
      simp only [Act.put, List.setIfInBounds_toArray, List.set_cons_succ, List.set_cons_zero]
      refine still_pick [6] (by kernel_rfl) (by decide) ?_
      intro i hi
      obtain rfl : i = 6 := by simpa using hi
      refine still_one (by first | (simp only [List.getElem?_toArray, List.getElem?_cons_succ, List.getElem?_cons_zero]; rfl) | rfl) (fun R hR => ?_)
      (try simp only [List.getElem_toArray, List.getElem_cons_succ, List.getElem_cons_zero])
      go_wp2_with (go_at_call 33; (with_reducible refine (HN.out _ _ 3 hC7.tp ?_ ?_ ?_).mono ?_); (· omega); (· omega); (· omega); rintro e w8 ⟨u, rfl, u0, u1, hgw8, hTw8⟩)
      refine only_normal (hR _ _ (Keep.step (fun h => Blk.grown h hgw8 (fun e => by injection e with e; omega))) ?_)
      clear hR R
      simp only [Act.put, List.setIfInBounds_toArray, List.set_cons_succ, List.set_cons_zero]
      have hD := hC7.call hT0.out hZ hgw8 hTw8
      have v := hD.box.lt
      obtain ⟨v0, g0⟩ := hD.box.cel.2 17 _ rfl
      refine still_pick [7] (by kernel_rfl) (by decide) ?_
      intro i hi
      obtain rfl : i = 7 := by simpa using hi
      refine still_one (by first | (simp only [List.getElem?_toArray, List.getElem?_cons_succ, List.getElem?_cons_zero]; rfl) | rfl) (fun R hR => ?_)
      (try simp only [List.getElem_toArray, List.getElem_cons_succ, List.getElem_cons_zero])
      go_wp2_with fail
      refine only_normal (hR _ _ (Keep.step (fun h => h)) ?_)
      clear hR R
      simp only [Act.put, List.setIfInBounds_toArray, List.set_cons_succ, List.set_cons_zero]
      refine still_pick [8] (by kernel_rfl) (by decide) ?_
      intro i hi
      obtain rfl : i = 8 := by simpa using hi
      refine still_one (by first | (simp only [List.getElem?_toArray, List.getElem?_cons_succ, List.getElem?_cons_zero]; rfl) | rfl) (fun R hR => ?_)
      (try simp only [List.getElem_toArray, List.getElem_cons_succ, List.getElem_cons_zero])
      go_wp2_with fail
      refine only_normal (hR _ _ (Keep.step (fun h => h)) ?_)
      clear hR R
      simp only [Act.put, List.setIfInBounds_toArray, List.set_cons_succ, List.set_cons_zero]
      refine still_pick [9] (by kernel_rfl) (by decide) ?_
      intro i hi
      obtain rfl : i = 9 := by simpa using hi
      refine still_one (by first | (simp only [List.getElem?_toArray, List.getElem?_cons_succ, List.getElem?_cons_zero]; rfl) | rfl) (fun R hR => ?_)
      (try simp only [List.getElem_toArray, List.getElem_cons_succ, List.getElem_cons_zero])
      go_wp2_with fail
      refine only_normal (hR _ _ (fun i hn h hi => ?_) ?_)
      · exfalso
        rcases (show i = 0 ∨ i = 1 ∨ i = 2 ∨ i = 3 ∨ i = 4 by omega) with rfl | rfl | rfl | rfl | rfl
        · exact absurd ⟨_, rfl, ⟨0, .phase⟩, by simp, rfl, rfl⟩ hn
        · exact absurd ⟨_, rfl, ⟨1, .phase⟩, by simp, rfl, rfl⟩ hn
        · exact absurd ⟨_, rfl, ⟨2, .phase⟩, by simp, rfl, rfl⟩ hn
        · exact absurd ⟨_, rfl, ⟨3, .phase⟩, by simp, rfl, rfl⟩ hn
        · exact absurd ⟨_, rfl, ⟨4, .phase⟩, by simp, rfl, rfl⟩ hn
      clear hR R
      simp only [Act.put, List.setIfInBounds_toArray, List.set_cons_succ, List.set_cons_zero]
      refine still_done (by kernel_rfl) ?_
      obtain ⟨tt, htt⟩ : ∃ tt, o + len + u = tt := ⟨_, rfl⟩
      have htt2 : 0 ≤ tt ∧ tt ≤ 20 := by omega
      have hC8 := hD.set hT0.out hZ 17 (.int .i64 (o + len + u))
      simp only [clV, List.set_cons_succ, List.set_cons_zero] at hC8
      rw [htt] at hC8 ⊢
      replace hC8 : Cb w T a cap xs (k5 + 1 + 1) Z (clV len 2 s t o tt 0 ⟨#[]⟩) _ := hC8
      clear hD v v0 g0 hgw8 hTw8 hbx hC7 hwr
      generalize w8.setCell ⟨Z, 17, none⟩ (.int .i64 tt) = W8 at *
      have y := hC8.box.lt
      have y1 := (hC8.box.cel.2 1 _ rfl).1
      go_upto_region 18 with fail
      obtain ⟨LT, hLT⟩ : ∃ LT : List Value, clV len 2 s t o tt 0 ⟨#[]⟩ = LT := ⟨_, rfl⟩
      have hl22 : LT.length = 22 := by rw [← hLT]; rfl
      have hone : ∀ v ∈ LT, v.oneCell' = true := by rw [← hLT]; exact clV_one _ _ _ _ _ _ _ _
      have hbox := hC8.box
      rw [hLT] at hbox
      have st := st_blk (P := Tryz.prog) hC8.res (by rw [hl22]; rfl) hone
      obtain ⟨hrB, hrT, hrR⟩ := hC8.row hT0.out LT
      obtain ⟨kz, hkz⟩ : ∃ kz, 22 = kz := ⟨_, rfl⟩
      have lb := ld_blk (P := Tryz.prog) (hl22.trans hkz) hrR
      replace hLT := Lib.hid hLT
      go_wp2_with (refine wpList_load_row rfl 81 (.tmp 7) rfl Z rfl 81 LT.toArray (0, 0) _ hbox Tryz.underlying81 rfl (by rw [List.size_toArray, hl22]; exact infoClip') ?_)
      have aE : ∀ w, (isAgg 81).run Tryz.prog w = .ok true w := Tryz.isAgg81
      have zE : ∀ w, (Go.sizeOf 81).run Tryz.prog w = .ok kz w := fun w => by rw [← hkz]; exact Tryz.sizeOf81 w
      simp [bodyPost, results, Tryz.results93, go_sem, aE, zE, lb]
      exact ⟨⟨len, 2, s, t, o, tt, 0, ⟨#[]⟩, 0, []⟩, hLT.out.symm, ClM.of hlen1 (by omega) hs ht (by omega) (by omega) (by omega) (by decide), hrB, _, hrT, by omega, by omega⟩
    · skip
      go_upto_region 9 with (go_at_call 124; (with_reducible refine (HS.out _ _ hC4.tp ?_).mono ?_); (· omega); rintro e w5 ⟨t, k5, rfl, ht, hgw5, hTw5, k5a, k5b⟩; have hD := hC4.call hT0.out hZ hgw5 hTw5; have v := hD.box.lt; obtain ⟨v0, g0⟩ := hD.box.cel.2 9 _ rfl; obtain ⟨v1, g1⟩ := hD.box.cel.2 10 _ rfl; obtain ⟨v2, g2⟩ := hD.box.cel.2 11 _ rfl; obtain ⟨v3, g3⟩ := hD.box.cel.2 12 _ rfl; obtain ⟨v4, g4⟩ := hD.box.cel.2 13 _ rfl; obtain ⟨v5, g5⟩ := hD.box.cel.2 14 _ rfl; obtain ⟨v6, g6⟩ := hD.box.cel.2 15 _ rfl)
      have hC5 := ((((((hD.set hT0.out hZ 9 (.int .i64 t.k)).set hT0.out hZ 10 (.string t.nm)).set hT0.out hZ 11 (.int .i64 t.an)).set hT0.out hZ 12 (.int .i64 t.ad)).set hT0.out hZ 13 (.int .i64 t.sn)).set hT0.out hZ 14 (.int .i64 t.sd)).set hT0.out hZ 15 (.bool t.sm)
      simp only [clV, List.set_cons_succ, List.set_cons_zero] at hC5
      replace hC5 : Cb w T a cap xs k5 Z (clV len 3 s t 0 0 0 ⟨#[]⟩) _ := hC5
      clear hD v v0 v1 v2 v3 v4 v5 v6 g0 g1 g2 g3 g4 g5 g6 hgw5 hTw5
      generalize ((((((w5.setCell ⟨Z, 9, none⟩ (.int .i64 t.k)).setCell ⟨Z, 10, none⟩ (.string t.nm)).setCell ⟨Z, 11, none⟩ (.int .i64 t.an)).setCell ⟨Z, 12, none⟩ (.int .i64 t.ad)).setCell ⟨Z, 13, none⟩ (.int .i64 t.sn)).setCell ⟨Z, 14, none⟩ (.int .i64 t.sd)).setCell ⟨Z, 15, none⟩ (.bool t.sm) = W5 at *
      clear hC4 y y1
      go_upto_region 10 with (go_at_call 33; (with_reducible refine (HN.out _ _ 3 hC5.tp ?_ ?_ ?_).mono ?_); (· omega); (· omega); (· omega); rintro e w6 ⟨o, rfl, o0, o1, hgw6, hTw6⟩; have hD := hC5.call hT0.out hZ hgw6 hTw6; have v := hD.box.lt; obtain ⟨v0, g0⟩ := hD.box.cel.2 16 _ rfl)
      have hC6 := hD.set hT0.out hZ 16 (.int .i64 o)
      simp only [clV, List.set_cons_succ, List.set_cons_zero] at hC6
      replace hC6 : Cb w T a cap xs (k5 + 1) Z (clV len 3 s t o 0 0 ⟨#[]⟩) _ := hC6
      clear hD v v0 g0 hgw6 hTw6
      generalize w6.setCell ⟨Z, 16, none⟩ (.int .i64 o) = W6 at *
      clear hC5
      refine wp_region_still (Keep 5 (fun y => Blk y Z 81 (clV len 3 s t o 0 0 ⟨#[]⟩))) 10 rfl (by kernel_rfl) ?_
      show stillAny _ _ _ _ _ _ #[false, false, false, false, false, false, false, false, false, false] _ _
      have hC7 := hC6.gr ((Gr.refl W6).drew)
      clear hC6
      generalize W6.drew = W7 at *
      have hbx := hC7.box
      refine still_pure 0 (v := .pointer (some ⟨Z, 16, none⟩)) rfl (by kernel_rfl) (by kernel_rfl) (by kernel_rfl) (fun _ => hbx) rfl (fun w hw => ?_) ?_
      · simp [execOp, go_sem] <;> (intros; omega)
      simp only [Act.put, List.setIfInBounds_toArray, List.set_cons_succ, List.set_cons_zero]
      refine still_pure 1 (v := .int .i64 o) rfl (by kernel_rfl) (by kernel_rfl) (by kernel_rfl) (fun _ => hbx) rfl (fun w hw => ?_) ?_
      · replace hw := hw (by decide)
        have hq0 := hw.lt
        have hq1 := (hw.cel.2 16 _ rfl).1
        (try simp at hq0 hq1)
        simp [execOp, go_sem, hq0, hq1]
      simp only [Act.put, List.setIfInBounds_toArray, List.set_cons_succ, List.set_cons_zero]
      refine still_pure 2 (v := .pointer (some ⟨Z, 0, none⟩)) rfl (by kernel_rfl) (by kernel_rfl) (by kernel_rfl) (fun _ => hbx) rfl (fun w hw => ?_) ?_
      · simp [execOp, go_sem] <;> (intros; omega)
      simp only [Act.put, List.setIfInBounds_toArray, List.set_cons_succ, List.set_cons_zero]
      refine still_pure 3 (v := .int .i64 len) rfl (by kernel_rfl) (by kernel_rfl) (by kernel_rfl) (fun _ => hbx) rfl (fun w hw => ?_) ?_
      · replace hw := hw (by decide)
        have hq0 := hw.lt
        have hq1 := (hw.cel.2 0 _ rfl).1
        (try simp at hq0 hq1)
        simp [execOp, go_sem, hq0, hq1]
      simp only [Act.put, List.setIfInBounds_toArray, List.set_cons_succ, List.set_cons_zero]
      have hwr : IntKind.i64.wrap (o + len) = o + len := by rw [IntKind.wrap_i64]; omega
      refine still_pure 4 (v := .int .i64 (o + len)) rfl (by kernel_rfl) (by kernel_rfl) (by kernel_rfl) (fun _ => hbx) rfl (fun wy hw => ?_) ?_
      · simp [execOp, go_sem, hwr]
      simp only [Act.put, List.setIfInBounds_toArray, List.set_cons_succ, List.set_cons_zero]
      refine still_pick [5] (by kernel_rfl) (by decide) ?_
      intro i hi
      obtain rfl : i = 5 := by simpa using hi
      refine still_one (by first | (simp only [List.getElem?_toArray, List.getElem?_cons_succ, List.getElem?_cons_zero]; rfl) | rfl) (fun R hR => ?_)
      (try simp only [List.getElem_toArray, List.getElem_cons_succ, List.getElem_cons_zero])
      go_wp2_with fail
      refine only_normal (hR _ _ (Keep.step (fun h => h)) ?_)
      clear hR R
      simp only [Act.put, List.setIfInBounds_toArray, List.set_cons_succ, List.set_cons_zero]
      refine still_pick [6] (by kernel_rfl) (by decide) ?_
      intro i hi
      obtain rfl : i = 6 := by simpa using hi
      refine still_one (by first | (simp only [List.getElem?_toArray, List.getElem?_cons_succ, List.getElem?_cons_zero]; rfl) | rfl) (fun R hR => ?_)
      (try simp only [List.getElem_toArray, List.getElem_cons_succ, List.getElem_cons_zero])
      go_wp2_with (go_at_call 33; (with_reducible refine (HN.out _ _ 3 hC7.tp ?_ ?_ ?_).mono ?_); (· omega); (· omega); (· omega); rintro e w8 ⟨u, rfl, u0, u1, hgw8, hTw8⟩)
      refine only_normal (hR _ _ (Keep.step (fun h => Blk.grown h hgw8 (fun e => by injection e with e; omega))) ?_)
      clear hR R
      simp only [Act.put, List.setIfInBounds_toArray, List.set_cons_succ, List.set_cons_zero]
      have hD := hC7.call hT0.out hZ hgw8 hTw8
      have v := hD.box.lt
      obtain ⟨v0, g0⟩ := hD.box.cel.2 17 _ rfl
      refine still_pick [7] (by kernel_rfl) (by decide) ?_
      intro i hi
      obtain rfl : i = 7 := by simpa using hi
      refine still_one (by first | (simp only [List.getElem?_toArray, List.getElem?_cons_succ, List.getElem?_cons_zero]; rfl) | rfl) (fun R hR => ?_)
      (try simp only [List.getElem_toArray, List.getElem_cons_succ, List.getElem_cons_zero])
      go_wp2_with fail
      refine only_normal (hR _ _ (Keep.step (fun h => h)) ?_)
      clear hR R
      simp only [Act.put, List.setIfInBounds_toArray, List.set_cons_succ, List.set_cons_zero]
      refine still_pick [8] (by kernel_rfl) (by decide) ?_
      intro i hi
      obtain rfl : i = 8 := by simpa using hi
      refine still_one (by first | (simp only [List.getElem?_toArray, List.getElem?_cons_succ, List.getElem?_cons_zero]; rfl) | rfl) (fun R hR => ?_)
      (try simp only [List.getElem_toArray, List.getElem_cons_succ, List.getElem_cons_zero])
      go_wp2_with fail
      refine only_normal (hR _ _ (Keep.step (fun h => h)) ?_)
      clear hR R
      simp only [Act.put, List.setIfInBounds_toArray, List.set_cons_succ, List.set_cons_zero]
      refine still_pick [9] (by kernel_rfl) (by decide) ?_
      intro i hi
      obtain rfl : i = 9 := by simpa using hi
      refine still_one (by first | (simp only [List.getElem?_toArray, List.getElem?_cons_succ, List.getElem?_cons_zero]; rfl) | rfl) (fun R hR => ?_)
      (try simp only [List.getElem_toArray, List.getElem_cons_succ, List.getElem_cons_zero])
      go_wp2_with fail
      refine only_normal (hR _ _ (fun i hn h hi => ?_) ?_)
      · exfalso
        rcases (show i = 0 ∨ i = 1 ∨ i = 2 ∨ i = 3 ∨ i = 4 by omega) with rfl | rfl | rfl | rfl | rfl
        · exact absurd ⟨_, rfl, ⟨0, .phase⟩, by simp, rfl, rfl⟩ hn
        · exact absurd ⟨_, rfl, ⟨1, .phase⟩, by simp, rfl, rfl⟩ hn
        · exact absurd ⟨_, rfl, ⟨2, .phase⟩, by simp, rfl, rfl⟩ hn
        · exact absurd ⟨_, rfl, ⟨3, .phase⟩, by simp, rfl, rfl⟩ hn
        · exact absurd ⟨_, rfl, ⟨4, .phase⟩, by simp, rfl, rfl⟩ hn
      clear hR R
      simp only [Act.put, List.setIfInBounds_toArray, List.set_cons_succ, List.set_cons_zero]
      refine still_done (by kernel_rfl) ?_
      obtain ⟨tt, htt⟩ : ∃ tt, o + len + u = tt := ⟨_, rfl⟩
      have htt2 : 0 ≤ tt ∧ tt ≤ 20 := by omega
      have hC8 := hD.set hT0.out hZ 17 (.int .i64 (o + len + u))
      simp only [clV, List.set_cons_succ, List.set_cons_zero] at hC8
      rw [htt] at hC8 ⊢
      replace hC8 : Cb w T a cap xs (k5 + 1 + 1) Z (clV len 3 s t o tt 0 ⟨#[]⟩) _ := hC8
      clear hD v v0 g0 hgw8 hTw8 hbx hC7 hwr
      generalize w8.setCell ⟨Z, 17, none⟩ (.int .i64 tt) = W8 at *
      have y := hC8.box.lt
      have y1 := (hC8.box.cel.2 1 _ rfl).1
      go_upto_region 18 with (go_at_call 33; (with_reducible refine (HN.out _ _ 4 hC8.tp ?_ ?_ ?_).mono ?_); (· omega); (· omega); (· omega); rintro e w9 ⟨pr, rfl, pr0, pr1, hgw9, hTw9⟩; have hD := hC8.call hT0.out hZ hgw9 hTw9; have v := hD.box.lt; obtain ⟨v0, g0⟩ := hD.box.cel.2 18 _ rfl)
      have hC9 := hD.set hT0.out hZ 18 (.int .i64 pr)
      simp only [clV, List.set_cons_succ, List.set_cons_zero] at hC9
      replace hC9 : Cb w T a cap xs (k5 + 1 + 1 + 1) Z (clV len 3 s t o tt pr ⟨#[]⟩) _ := hC9
      clear hD v v0 g0 hgw9 hTw9
      generalize w9.setCell ⟨Z, 18, none⟩ (.int .i64 pr) = W9 at *
      obtain ⟨LT, hLT⟩ : ∃ LT : List Value, clV len 3 s t o tt pr ⟨#[]⟩ = LT := ⟨_, rfl⟩
      have hl22 : LT.length = 22 := by rw [← hLT]; rfl
      have hone : ∀ v ∈ LT, v.oneCell' = true := by rw [← hLT]; exact clV_one _ _ _ _ _ _ _ _
      have hbox := hC9.box
      rw [hLT] at hbox
      have st := st_blk (P := Tryz.prog) hC9.res (by rw [hl22]; rfl) hone
      obtain ⟨hrB, hrT, hrR⟩ := hC9.row hT0.out LT
      obtain ⟨kz, hkz⟩ : ∃ kz, 22 = kz := ⟨_, rfl⟩
      have lb := ld_blk (P := Tryz.prog) (hl22.trans hkz) hrR
      replace hLT := Lib.hid hLT
      go_wp2_with (refine wpList_load_row rfl 81 (.tmp 7) rfl Z rfl 81 LT.toArray (0, 0) _ hbox Tryz.underlying81 rfl (by rw [List.size_toArray, hl22]; exact infoClip') ?_)
      have aE : ∀ w, (isAgg 81).run Tryz.prog w = .ok true w := Tryz.isAgg81
      have zE : ∀ w, (Go.sizeOf 81).run Tryz.prog w = .ok kz w := fun w => by rw [← hkz]; exact Tryz.sizeOf81 w
      simp [bodyPost, results, Tryz.results93, go_sem, aE, zE, lb]
      exact ⟨⟨len, 3, s, t, o, tt, pr, ⟨#[]⟩, 0, []⟩, hLT.out.symm, ClM.of hlen1 (by omega) hs ht (by omega) (by omega) (by omega) (by decide), hrB, _, hrT, by omega, by omega⟩
    · skip
      go_upto_region 15 with (go_at_call 124; (with_reducible refine (HS.out _ _ hC4.tp ?_).mono ?_); (· omega); rintro e w5 ⟨t, k5, rfl, ht, hgw5, hTw5, k5a, k5b⟩; have hD := hC4.call hT0.out hZ hgw5 hTw5; have v := hD.box.lt; obtain ⟨v0, g0⟩ := hD.box.cel.2 9 _ rfl; obtain ⟨v1, g1⟩ := hD.box.cel.2 10 _ rfl; obtain ⟨v2, g2⟩ := hD.box.cel.2 11 _ rfl; obtain ⟨v3, g3⟩ := hD.box.cel.2 12 _ rfl; obtain ⟨v4, g4⟩ := hD.box.cel.2 13 _ rfl; obtain ⟨v5, g5⟩ := hD.box.cel.2 14 _ rfl; obtain ⟨v6, g6⟩ := hD.box.cel.2 15 _ rfl)
      have hC5 := ((((((hD.set hT0.out hZ 9 (.int .i64 t.k)).set hT0.out hZ 10 (.string t.nm)).set hT0.out hZ 11 (.int .i64 t.an)).set hT0.out hZ 12 (.int .i64 t.ad)).set hT0.out hZ 13 (.int .i64 t.sn)).set hT0.out hZ 14 (.int .i64 t.sd)).set hT0.out hZ 15 (.bool t.sm)
      simp only [clV, List.set_cons_succ, List.set_cons_zero] at hC5
      replace hC5 : Cb w T a cap xs k5 Z (clV len 4 s t 0 0 0 ⟨#[]⟩) _ := hC5
      clear hD v v0 v1 v2 v3 v4 v5 v6 g0 g1 g2 g3 g4 g5 g6 hgw5 hTw5
      generalize ((((((w5.setCell ⟨Z, 9, none⟩ (.int .i64 t.k)).setCell ⟨Z, 10, none⟩ (.string t.nm)).setCell ⟨Z, 11, none⟩ (.int .i64 t.an)).setCell ⟨Z, 12, none⟩ (.int .i64 t.ad)).setCell ⟨Z, 13, none⟩ (.int .i64 t.sn)).setCell ⟨Z, 14, none⟩ (.int .i64 t.sd)).setCell ⟨Z, 15, none⟩ (.bool t.sm) = W5 at *
      clear hC4 y y1
      go_upto_region 18 with (go_at_call 33; (with_reducible refine (HN.out _ _ 256 hC5.tp ?_ ?_ ?_).mono ?_); (· omega); (· omega); (· omega); rintro e w6 ⟨o, rfl, o0, o1, hgw6, hTw6⟩; have hD := hC5.call hT0.out hZ hgw6 hTw6; have v := hD.box.lt; obtain ⟨v0, g0⟩ := hD.box.cel.2 18 _ rfl)
      have hC6 := hD.set hT0.out hZ 18 (.int .i64 o)
      simp only [clV, List.set_cons_succ, List.set_cons_zero] at hC6
      replace hC6 : Cb w T a cap xs (k5 + 1) Z (clV len 4 s t 0 0 o ⟨#[]⟩) _ := hC6
      clear hD v v0 g0 hgw6 hTw6
      generalize w6.setCell ⟨Z, 18, none⟩ (.int .i64 o) = W6 at *
      obtain ⟨LT, hLT⟩ : ∃ LT : List Value, clV len 4 s t 0 0 o ⟨#[]⟩ = LT := ⟨_, rfl⟩
      have hl22 : LT.length = 22 := by rw [← hLT]; rfl
      have hone : ∀ v ∈ LT, v.oneCell' = true := by rw [← hLT]; exact clV_one _ _ _ _ _ _ _ _
      have hbox := hC6.box
      rw [hLT] at hbox
      have st := st_blk (P := Tryz.prog) hC6.res (by rw [hl22]; rfl) hone
      obtain ⟨hrB, hrT, hrR⟩ := hC6.row hT0.out LT
      obtain ⟨kz, hkz⟩ : ∃ kz, 22 = kz := ⟨_, rfl⟩
      have lb := ld_blk (P := Tryz.prog) (hl22.trans hkz) hrR
      replace hLT := Lib.hid hLT
      go_wp2_with (refine wpList_load_row rfl 81 (.tmp 7) rfl Z rfl 81 LT.toArray (0, 0) _ hbox Tryz.underlying81 rfl (by rw [List.size_toArray, hl22]; exact infoClip') ?_)
      have aE : ∀ w, (isAgg 81).run Tryz.prog w = .ok true w := Tryz.isAgg81
      have zE : ∀ w, (Go.sizeOf 81).run Tryz.prog w = .ok kz w := fun w => by rw [← hkz]; exact Tryz.sizeOf81 w
      simp [bodyPost, results, Tryz.results93, go_sem, aE, zE, lb]
      exact ⟨⟨len, 4, s, t, 0, 0, o, ⟨#[]⟩, 0, []⟩, hLT.out.symm, ClM.of hlen1 (by omega) hs ht (by omega) (by omega) (by omega) (by decide), hrB, _, hrT, by omega, by omega⟩
    · skip
      have hgS : Gr W4 (W4.alloc (.cells #[.string ⟨#[65]⟩, .string ⟨#[82, 69, 69, 76, 32, 55]⟩, .string ⟨#[116, 104, 101, 32, 101, 110, 100, 46]⟩, .string ⟨#[49, 50, 58, 51, 48]⟩] 9)) := (Gr.refl W4).alloc _
      have hc4 := Cel.new W4 textsV.toArray 9
      have hzl := hC4.by_.size
      go_upto_region 18 with (go_at_call 33; (with_reducible refine (HN.out _ _ 4 (hC4.gr hgS).tp ?_ ?_ ?_).mono ?_); (· omega); (· omega); (· omega); rintro e w5 ⟨r', rfl, r'0, r'1, hgw5, hTw5⟩; obtain ⟨sn, rfl⟩ : ∃ sn : Nat, r' = sn := ⟨r'.toNat, by omega⟩; have hD := (hC4.gr hgS).call hT0.out hZ hgw5 hTw5; have v := hD.box.lt; obtain ⟨v0, g0⟩ := hD.box.cel.2 19 _ rfl; have hc5 := Cel.grown hgw5 (fun e => by injection e with e; omega) hc4; have cl := hc5.lt; obtain ⟨tx, htx, e0⟩ := text_at hc5 (show sn < 4 by omega); have hsl : sn < 4 := by omega)
      have hC6 := hD.set hT0.out hZ 19 (.string tx)
      simp only [clV, List.set_cons_succ, List.set_cons_zero] at hC6
      replace hC6 : Cb w T a cap xs (k4 + 1) Z (clV len 5 s blkS 0 0 0 tx) _ := hC6
      clear hD v v0 g0 hgw5 hTw5 hc4 hc5 cl e0 hgS
      generalize w5.setCell ⟨Z, 19, none⟩ (.string tx) = W6 at *
      obtain ⟨LT, hLT⟩ : ∃ LT : List Value, clV len 5 s blkS 0 0 0 tx = LT := ⟨_, rfl⟩
      have hl22 : LT.length = 22 := by rw [← hLT]; rfl
      have hone : ∀ v ∈ LT, v.oneCell' = true := by rw [← hLT]; exact clV_one _ _ _ _ _ _ _ _
      have hbox := hC6.box
      rw [hLT] at hbox
      have st := st_blk (P := Tryz.prog) hC6.res (by rw [hl22]; rfl) hone
      obtain ⟨hrB, hrT, hrR⟩ := hC6.row hT0.out LT
      obtain ⟨kz, hkz⟩ : ∃ kz, 22 = kz := ⟨_, rfl⟩
      have lb := ld_blk (P := Tryz.prog) (hl22.trans hkz) hrR
      replace hLT := Lib.hid hLT
      go_wp2_with (refine wpList_load_row rfl 81 (.tmp 7) rfl Z rfl 81 LT.toArray (0, 0) _ hbox Tryz.underlying81 rfl (by rw [List.size_toArray, hl22]; exact infoClip') ?_)
      have aE : ∀ w, (isAgg 81).run Tryz.prog w = .ok true w := Tryz.isAgg81
      have zE : ∀ w, (Go.sizeOf 81).run Tryz.prog w = .ok kz w := fun w => by rw [← hkz]; exact Tryz.sizeOf81 w
      simp [bodyPost, results, Tryz.results93, go_sem, aE, zE, lb]
      exact ⟨⟨len, 5, s, blkS, 0, 0, 0, tx, 0, []⟩, hLT.out.symm, ClM.of hlen1 (by omega) hs SrM.blk (by omega) (by omega) (by omega) htx, hrB, _, hrT, by omega, by omega⟩
end Go.Proofs.YtgbiodnfpbhjiaaGreatDoor
