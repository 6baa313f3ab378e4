/-
  Contract of the tape of choices: a track.
  Conditions: the tape's numbers lie in memory.
-/
import Derived.Test.YtgbiodnfpbhjiaaGreatDoorWalkFd
import Derived.Test.YtgbiodnfpbhjiaaGreatDoorWalkUe
import Derived.Test.YtgbiodnfpbhjiaaGreatDoorWalkOfL
namespace Go.Proofs.YtgbiodnfpbhjiaaGreatDoor
open Go.RowKit Go.Lib
set_option linter.unusedSimpArgs false
set_option linter.unusedVariables false

theorem SrM.ok {s : Sr} (h : SrM s) : SrOk s := by
  have h1 := h.k
  have h2 := h.nm
  have h3 := h.an
  have h4 := h.ad
  have h5 := h.sn
  have h6 := h.sd
  exact ⟨⟨by omega, by omega⟩, by omega, ⟨by omega, by omega⟩, ⟨by omega, by omega⟩, ⟨by omega, by omega⟩, ⟨by omega, by omega⟩⟩
theorem ClM.ok {c : Cl} (h : ClM c) : ClOk c := by
  have h1 := h.len
  have h2 := h.kind
  have h3 := h.off
  have h4 := h.tot
  have h5 := h.par
  have h6 := h.tx
  have h7 := h.gain
  have h8 := h.ch
  exact ⟨⟨by omega, by omega⟩, ⟨by omega, by omega⟩, h.a.ok, h.b.ok, ⟨by omega, by omega⟩, ⟨by omega, by omega⟩, ⟨by omega, by omega⟩, by omega, ⟨by omega, by omega⟩, by rw [h8]; decide⟩
/-- the clip that goes on with another one -/
def nextC (c : Cl) (n : Int) : Cl := ⟨n, c.kind, ⟨c.a.k, c.a.nm, c.a.an + c.len * c.a.ad, c.a.ad, c.a.sn, c.a.sd, c.a.sm⟩, c.b, c.off, c.tot, c.par, c.tx, c.gain, c.ch⟩
theorem mul_bnd {x y : Int} (h1 : 1 ≤ x) (h2 : x ≤ 9) (h3 : 0 ≤ y) (h4 : y ≤ 2000) : 0 ≤ x * y ∧ x * y ≤ 18000 := by
  refine ⟨Int.mul_nonneg (by omega) h3, ?_⟩
  have h5 := Int.mul_le_mul h2 h4 h3 (by omega)
  omega
theorem ClM.next {c : Cl} (h : ClM c) {n : Int} (h0 : 1 ≤ n) (h9 : n ≤ 9) : ClOk (nextC c n) ∧ (nextC c n).ch = [] := by
  have h1 := h.len
  have h2 := h.kind
  have h3 := h.off
  have h4 := h.tot
  have h5 := h.par
  have h6 := h.tx
  have h7 := h.gain
  have h8 := h.ch
  have a := h.a.ok
  have a1 := h.a.an
  have a2 := h.a.ad
  have m := mul_bnd h1.1 h1.2 a2.1 a2.2
  refine ⟨⟨⟨by show _ ≤ n; omega, by show n ≤ _; omega⟩, ⟨by show _ ≤ c.kind; omega, by show c.kind ≤ _; omega⟩, ⟨a.k, a.nm, ⟨by show _ ≤ c.a.an + c.len * c.a.ad; omega, by show c.a.an + c.len * c.a.ad ≤ _; omega⟩, a.ad, a.sn, a.sd⟩, h.b.ok, ⟨by show _ ≤ c.off; omega, by show c.off ≤ _; omega⟩, ⟨by show _ ≤ c.tot; omega, by show c.tot ≤ _; omega⟩, ⟨by show _ ≤ c.par; omega, by show c.par ≤ _; omega⟩, by show c.tx.size ≤ _; omega, ⟨by show _ ≤ c.gain; omega, by show c.gain ≤ _; omega⟩, by show c.ch.length * 8 ≤ _; rw [h8]; decide⟩, h8⟩
/-- what the loop has in memory: the tape, the track -/
structure Tl (w : World) (T : Nat) (a : Option Addr) (cap : Nat) (xs : List Int) (k : Nat) (tv : Value) (L : List Cl) (wx : World) : Prop where
  by_ : ByT w T wx
  tp : Tape wx T a cap xs k
  own : wx.ownsRow w.heap.size 81 22 tv L.length (cflat (L.map cm0))
theorem Tl.gr {w : World} {T : Nat} {a : Option Addr} {cap : Nat} {xs : List Int} {k : Nat} {tv : Value} {L : List Cl} {wx wy : World} (h : Tl w T a cap xs k tv L wx) (hg : Gr wx wy) : Tl w T a cap xs k tv L wy :=
  ⟨h.by_.gr hg, h.tp.gr hg, own_gr hg h.own⟩
theorem Tl.call {w : World} {T : Nat} {a : Option Addr} {cap : Nat} {xs : List Int} {k k' : Nat} {tv : Value} {L : List Cl} {wx wy : World} (h : Tl w T a cap xs k tv L wx) (hT : T < w.heap.size) (hg : wx.grownBy wy (some T)) (ht : Tape wy T a cap xs k') : Tl w T a cap xs k' tv L wy :=
  ⟨h.by_.step hg (fun k h => by injection h with h; exact .inl h.symm), ht, World.ownsRow.kept h.own hg (.inr (fun e => by have := own_ge h.own _ e; omega))⟩
theorem Tl.app {w : World} {T : Nat} {a : Option Addr} {cap : Nat} {xs : List Int} {k k0 : Nat} {tv v9 : Value} {L : List Cl} {wx w9 : World} (h : Tl w T a cap xs k tv L wx) (h0 : Tape w T a cap xs k0) (c : Cl)
    (hown : w9.ownsRow w.heap.size 81 22 v9 (L.length + 1) (cflat (L.map cm0) ++ (cm0 c).cells)) (hg : wx.grownBy w9 tv.ownBlock) : Tl w T a cap xs k v9 (L ++ [c]) w9 := by
  have hT := h0.cel.lt
  have hge := own_ge h.own
  refine ⟨h.by_.step hg (fun k hk => .inr (hge k hk)), Tape.later h0 hg (fun e => by have := hge _ e; omega) hge h.tp, ?_⟩
  rw [List.length_append, List.map_append, cflat_append]
  have hone : cflat (List.map cm0 [c]) = (cm0 c).cells := by
    show (cm0 c).cells ++ [] = _
    exact List.append_nil _
  rw [hone]
  exact hown
theorem Tl.other {w : World} {T : Nat} {a : Option Addr} {cap : Nat} {xs : List Int} {k k0 : Nat} {tv : Value} {L : List Cl} {wx : World} (h : Tl w T a cap xs k tv L wx) (h0 : Tape w T a cap xs k0) {p : Addr} (hp : w.heap.size ≤ p.block) (hne : tv.ownBlock ≠ some p.block) (u : Value) : Tl w T a cap xs k tv L (wx.setCell p u) := by
  have hT := h0.cel.lt
  exact ⟨h.by_.set hp u, Tape.later h0 (grown_setCell _ _ _) (fun h => by injection h with h; omega) (fun k h => by injection h with h; omega) h.tp, World.ownsRow.kept h.own (grown_setCell _ _ _) (.inr hne)⟩
theorem infoClz : (Tryz.prog.info? 81).map (fun i => (i.zero, i.size, i.bytes)) = some (some (.agg #[.int .i64 0, .int .i64 0, .int .i64 0, .string ⟨#[]⟩, .int .i64 0, .int .i64 0, .int .i64 0, .int .i64 0, .bool false, .int .i64 0, .string ⟨#[]⟩, .int .i64 0, .int .i64 0, .int .i64 0, .int .i64 0, .bool false, .int .i64 0, .int .i64 0, .int .i64 0, .string ⟨#[]⟩, .int .i64 0, .slice none 0 0]), 22, 216) := by kernel_rfl
set_option maxRecDepth 20000 in
set_option maxHeartbeats 8000000 in
theorem ttrack_any (T : Nat) (a : Option Addr) (cap : Nat) (xs : List Int) (k : Nat) (w : World) (hT : Tape w T a cap xs k) (hk : k ≤ 1000) :
    Calls Tryz.prog 48 #[.pointer (some ⟨T, 0, none⟩), .int .i64 3, .int .i64 2, .int .i64 9] w fun e w' => ∃ (v : Value) (L : List Cl), e = .returned v ∧ ByT w T w' ∧ w'.ownsRow w.heap.size 81 22 v L.length (cflat (L.map cm0)) ∧ L.length ≤ 20 ∧ ∀ c ∈ L, ClOk c ∧ c.ch = [] := by
  have HN : Hid (∀ (w' : World) (k' : Nat) (n : Int), Tape w' T a cap xs k' → k' ≤ 1000000 → 1 ≤ n → n ≤ 2147483647 → Calls Tryz.prog 33 #[.pointer (some ⟨T, 0, none⟩), .int .i64 n] w' fun e w'' => ∃ r : Int, e = .returned (.int .i64 r) ∧ 0 ≤ r ∧ r < n ∧ w'.grownBy w'' (some T) ∧ Tape w'' T a cap xs (k' + 1)) := fun w' k' n h1 h2 h3 h4 => next_any T a cap xs k' n w' h1 h2 h3 h4
  have HC : Hid (∀ (w' : World) (k' : Nat), Tape w' T a cap xs k' → k' ≤ 5000 → Calls Tryz.prog 93 #[.pointer (some ⟨T, 0, none⟩), .int .i64 3, .int .i64 2] w' fun e w'' => ∃ (c : Cl) (k'' : Nat), e = .returned (.agg (cm0 c).cells.toArray) ∧ ClM c ∧ ByT w' T w'' ∧ Tape w'' T a cap xs k'' ∧ k' ≤ k'' ∧ k'' ≤ k' + 20) := Lib.hid fun w' k' h1 h2 => clip_any T a cap xs k' w' h1 h2
  have hTl := hT.cel.lt
  have hT0 := Lib.hid hT
  obtain ⟨ic, hic, hic0, hic1, hic2⟩ := info_parts infoClz
  go_enter Tryz.func48, Tryz.ntmps48
  go_wp2_with (go_at_call 33; (with_reducible refine (HN.out _ k 10 hT ?_ ?_ ?_).mono ?_); (· omega); (· omega); (· omega); rintro e w1 ⟨n, rfl, n0, n10, hg1, hT1⟩)
  have hL1 : Tl w T a cap xs (k + 1) (.slice none 0 0) [] w1 := ⟨(ByT.refl w T).step hg1 (fun k h => by injection h with h; exact .inl h.symm), hT1, World.ownsRow_nil _ _ _ _⟩
  clear hT hg1 hT1
  go_loopw [9, 10] (fun tv n wr => ∃ (j k' : Nat) (L : List Cl), n = .int .i64 j ∧ j ≤ 9 ∧ k' + 22 * j ≤ k + 220 ∧ L.length + 2 * j ≤ 20 ∧ Tl w T a cap xs k' tv L wr ∧ Hid (∀ c ∈ L, ClOk c ∧ c.ch = [])) (fun _ n _ => (RowKit.intOf n).toNat)
  case atStart => exact ⟨n.toNat, k + 1, [], by rw [Int.toNat_of_nonneg n0], by omega, by omega, by simp; omega, hL1, Lib.hid fun c hc => by cases hc⟩
  case round =>
    obtain ⟨j, k', L, rfl, hj, hkj, hlj, hTl', hok⟩ := hrel
    clear hL1
    obtain ⟨pv, cv, rfl⟩ := own_shape hTl'.own
    by_cases g : 0 < j
    · have q1 : decide (0 < (j : Int)) = true := decide_eq_true (by omega)
      go_upto_region 6 with (go_at_call 93; (with_reducible refine (HC.out _ _ hTl'.tp ?_).mono ?_); (· omega); rintro e w2 ⟨c, k2, rfl, hM, hg2, hT2, ka, kb⟩; have hTa := hTl'.call hTl hg2 hT2; obtain ⟨LL, hLL⟩ : ∃ LL : List Value, (cm0 c).cells = LL := ⟨_, rfl⟩; rw [hLL]; have hl22 : LL.length = 22 := (by rw [← hLL]; rfl); have hone : ∀ v ∈ LL, v.oneCell' = true := (by rw [← hLL]; exact (cm0_ch w hM.ch).one); have st := st_new (P := Tryz.prog) w2 81 #[.int .i64 0, .int .i64 0, .int .i64 0, .string ⟨#[]⟩, .int .i64 0, .int .i64 0, .int .i64 0, .int .i64 0, .bool false, .int .i64 0, .string ⟨#[]⟩, .int .i64 0, .int .i64 0, .int .i64 0, .int .i64 0, .bool false, .int .i64 0, .int .i64 0, .int .i64 0, .string ⟨#[]⟩, .int .i64 0, .slice none 0 0] LL (by rw [hl22]; exact infoClip') (by rw [hl22]; rfl) hone; replace hLL := Lib.hid hLL)
      have hgB : Gr w2 (w2.alloc (.cells LL.toArray 81)) := (Gr.refl w2).alloc _
      have hTb := hTa.gr hgB
      have hbx := Blk.new w2 LL 81
      have hgr2 := World.grownBy.size hg2
      have hrow : ∀ g, (Value.slice pv L.length cv).ownBlock = some g → g < w2.heap.size := fun g hg => Nat.lt_of_lt_of_le (hTl'.own.lt g hg).2 hgr2
      have hwX : w.heap.size ≤ w2.heap.size := hTa.by_.size
      obtain ⟨X, hX⟩ : ∃ X, w2.heap.size = X := ⟨_, rfl⟩
      obtain ⟨W2, hW2⟩ : ∃ W2, w2.alloc (.cells LL.toArray 81) = W2 := ⟨_, rfl⟩
      rw [hW2] at hTb hbx ⊢
      rw [hX] at hbx hrow hwX ⊢
      clear hTa hgB hgr2 hTl' hg2 hT2 st hX hW2
      have hg8 := (Gr.refl W2).alloc (.cells LL.toArray 81)
      have hTc := hTb.gr hg8
      have hrd := Rd.new W2 LL.toArray 81 1 22 1 (by simpa using hl22)
      have hWz : w.heap.size ≤ (W2.alloc (.cells LL.toArray 81)).heap.size := hTc.by_.size
      have hown6 := hTc.own
      go_upto_region 7 with (first | (refine wpList_load_row rfl 81 (.tmp 11) rfl X rfl 81 LL.toArray (0, 0) _ hbx Tryz.underlying81 rfl (by rw [List.size_toArray, hl22]; exact infoClip') ?_) | (refine wpList_bs1 rfl 35 81 (.tmp 27) rfl 22 (by kernel_rfl) (by kernel_rfl) (by omega) (by omega) LL hl22 rfl ?_) | (at_builtin; go_loud (refine wpList_append_rd rfl (.tmp 26) (.tmp 28) 35 rfl w.heap.size 81 ic (.agg #[.int .i64 0, .int .i64 0, .int .i64 0, .string ⟨#[]⟩, .int .i64 0, .int .i64 0, .int .i64 0, .int .i64 0, .bool false, .int .i64 0, .string ⟨#[]⟩, .int .i64 0, .int .i64 0, .int .i64 0, .int .i64 0, .bool false, .int .i64 0, .int .i64 0, .int .i64 0, .string ⟨#[]⟩, .int .i64 0, .slice none 0 0]) 22 216 (by kernel_rfl) hic hic0 hic1 hic2 rfl (by decide) (.slice pv L.length cv) _ _ rfl hown6 _ 1 LL rfl hrd hone ?_ ?_ ?_ ?_); (· unfold maxLen; omega); (· omega); (· exact hWz); intro v9 w9 hown9 hgrow9; obtain ⟨p9, c9, rfl⟩ := own_shape hown9))
      have hTd : Tl w T a cap xs k2 (.slice p9 (L.length + 1) c9) (L ++ [c]) w9 := hTc.app hT0.out c (by rw [hLL.out]; exact hown9) hgrow9
      have hbx9 : Blk w9 X 81 LL := (hbx.gr hg8).grown hgrow9 (fun e => by have := hrow X e; omega)
      clear hTb hbx hg8 hTc hrd hWz hown6 hown9 hgrow9 hrow
      go_upto_region 8 with (go_at_call 33; (with_reducible refine (HN.out _ _ 4 hTd.tp ?_ ?_ ?_).mono ?_); (· omega); (· omega); (· omega); rintro e w10 ⟨r, rfl, r0, r4, hg10, hT10⟩)
      have hTe := hTd.call hTl hg10 hT10
      have hbx10 := hbx9.grown hg10 (fun e => by injection e with e; omega)
      clear hTd hbx9 hg10 hT10
      have e1 : ((j : Int) - 1) = ((j - 1 : Nat) : Int) := by omega
      have hlL : (L ++ [c]).length = L.length + 1 := by simp
      have hok2 : ∀ d ∈ L ++ [c], ClOk d ∧ d.ch = [] := fun d hd => by
        rcases List.mem_append.1 hd with h | h
        · exact hok.out d h
        · rw [List.mem_singleton.1 h]; exact ⟨hM.ok, hM.ch⟩
      replace hok2 := Lib.hid hok2
      by_cases cr : r = 0
      · subst cr
        have q2 : decide ((L.length : Int) + 1 < 64) = true := decide_eq_true (by omega)
        have q3 : decide (L.length + 1 < 64) = true := decide_eq_true (by omega)
        have y := hbx10.lt
        have st := st_new (P := Tryz.prog) w10 81 #[.int .i64 0, .int .i64 0, .int .i64 0, .string ⟨#[]⟩, .int .i64 0, .int .i64 0, .int .i64 0, .int .i64 0, .bool false, .int .i64 0, .string ⟨#[]⟩, .int .i64 0, .int .i64 0, .int .i64 0, .int .i64 0, .bool false, .int .i64 0, .int .i64 0, .int .i64 0, .string ⟨#[]⟩, .int .i64 0, .slice none 0 0] LL (by rw [hl22]; exact infoClip') (by rw [hl22]; rfl) hone
        go_upto_region 10 with (refine wpList_load_row rfl 81 (.tmp 11) rfl X rfl 81 LL.toArray (0, 0) _ hbx10 Tryz.underlying81 rfl (by rw [List.size_toArray, hl22]; exact infoClip') ?_)
        have hgB : Gr w10 (w10.alloc (.cells LL.toArray 81)) := (Gr.refl w10).alloc _
        have hTf := hTe.gr hgB
        have hbX := hbx10.gr hgB
        have hbY := Blk.new w10 LL 81
        have hXY : X < w10.heap.size := y
        obtain ⟨Y, hY⟩ : ∃ Y, w10.heap.size = Y := ⟨_, rfl⟩
        obtain ⟨W3, hW3⟩ : ∃ W3, w10.alloc (.cells LL.toArray 81) = W3 := ⟨_, rfl⟩
        have hneY : (Value.slice p9 (L.length + 1) c9).ownBlock ≠ some Y := fun e => by
          have := (hTe.own.lt Y (by simpa [Value.ownBlock] using e)).2
          omega
        rw [hW3] at hTf hbX hbY ⊢
        rw [hY] at hbY hXY ⊢
        clear hTe hbx10 st hgB hY hW3 y
        go_upto_region 11 with (go_at_call 33; (with_reducible refine (HN.out _ _ 4 hTf.tp ?_ ?_ ?_).mono ?_); (· omega); (· omega); (· omega); rintro e w11 ⟨m, rfl, m0, m4, hg11, hT11⟩; have hbY11 := hbY.grown hg11 (fun e => by injection e with e; omega); have y := hbY11.lt; obtain ⟨y0, yf0⟩ := hbY11.cel.2 0 (.int .i64 c.len) (by rw [← hLL.out]; rfl))
        have hTg := (hTf.call hTl hg11 hT11).other hT0.out (p := ⟨Y, 0, none⟩) (by simp only; omega) hneY (.int .i64 (1 + m))
        have hbX11 := (hbX.grown hg11 (fun e => by injection e with e; omega)).other (p := ⟨Y, 0, none⟩) (by simp only; omega) (.int .i64 (1 + m))
        have hbY12 := hbY11.set 0 (.int .i64 (1 + m))
        clear hTf hbX hbY hg11 hT11 hbY11 y y0 yf0
        generalize w11.setCell ⟨Y, 0, none⟩ (.int .i64 (1 + m)) = W4 at *
        obtain ⟨nl, hnl⟩ : ∃ nl, 1 + m = nl := ⟨_, rfl⟩
        rw [hnl] at hbY12 ⊢
        have hnl2 : 1 ≤ nl ∧ nl ≤ 9 := by omega
        have x := hbX11.lt
        have x0 := (hbX11.cel.2 0 (.int .i64 c.len) (by rw [← hLL.out]; rfl)).1
        have x1 := (hbX11.cel.2 1 (.int .i64 c.kind) (by rw [← hLL.out]; rfl)).1
        have x6 := (hbX11.cel.2 6 (.int .i64 c.a.sn) (by rw [← hLL.out]; rfl)).1
        have x7 := (hbX11.cel.2 7 (.int .i64 c.a.sd) (by rw [← hLL.out]; rfl)).1
        have x9 := (hbX11.cel.2 9 (.int .i64 c.b.k) (by rw [← hLL.out]; rfl)).1
        have x10 := (hbX11.cel.2 10 (.string c.b.nm) (by rw [← hLL.out]; rfl)).1
        have x11 := (hbX11.cel.2 11 (.int .i64 c.b.an) (by rw [← hLL.out]; rfl)).1
        have x12 := (hbX11.cel.2 12 (.int .i64 c.b.ad) (by rw [← hLL.out]; rfl)).1
        have x13 := (hbX11.cel.2 13 (.int .i64 c.b.sn) (by rw [← hLL.out]; rfl)).1
        have x14 := (hbX11.cel.2 14 (.int .i64 c.b.sd) (by rw [← hLL.out]; rfl)).1
        have x15 := (hbX11.cel.2 15 (.bool c.b.sm) (by rw [← hLL.out]; rfl)).1
        go_cut [64] (fun vb wx => ∃ B : Bool, vb = .bool B ∧ wx = W4)
        case first =>
          go_wp2
          all_goals (go_meet; exact ⟨_, rfl, rfl⟩)
        case rest =>
          obtain ⟨B, rfl, rfl⟩ := hcut
          cases B with
          | false =>
            go_wp2
            go_roundw
            case rel => exact ⟨j - 1, k2 + 1 + 1, L ++ [c], by first | rfl | rw [e1], by omega, by omega, by omega, by rw [hlL] at *; exact hTg, hok2⟩
            case measure => simp [RowKit.intOf]; omega
          | true =>
            have hmb := mul_bnd hM.len.1 hM.len.2 hM.a.ad.1 hM.a.ad.2
            have hab := hM.a.an
            have y := hbY12.lt
            obtain ⟨y4, yf4⟩ := hbY12.cel.2 4 (.int .i64 c.a.an) (by rw [← hLL.out]; rfl)
            have y5 := (hbY12.cel.2 5 (.int .i64 c.a.ad) (by rw [← hLL.out]; rfl)).1
            go_upto_region 13 with fail
            have hTh := hTg.other hT0.out (p := ⟨Y, 4, none⟩) (by simp only; omega) hneY (.int .i64 (c.a.an + c.len * c.a.ad))
            have hbY13 := hbY12.set 4 (.int .i64 (c.a.an + c.len * c.a.ad))
            obtain ⟨LN, hLN⟩ : ∃ LN, (LL.set 0 (.int .i64 nl)).set 4 (.int .i64 (c.a.an + c.len * c.a.ad)) = LN := ⟨_, rfl⟩
            rw [hLN] at hbY13
            have hLN2 : (cm0 (nextC c nl)).cells = LN := by rw [← hLN, ← hLL.out]; rfl
            have hNx := hM.next hnl2.1 hnl2.2
            have hn22 : LN.length = 22 := by rw [← hLN2]; rfl
            have honeN : ∀ v ∈ LN, v.oneCell' = true := by rw [← hLN2]; exact (cm0_ch w hNx.2).one
            replace hLN2 := Lib.hid hLN2
            clear hLN x x0 x1 x6 x7 x9 x10 x11 x12 x13 x14 x15 y y4 yf4 y5 hTg hbY12 hbX11
            generalize wc.setCell ⟨Y, 4, none⟩ (.int .i64 (c.a.an + c.len * c.a.ad)) = W5 at *
            have hg8 := (Gr.refl W5).alloc (.cells LN.toArray 81)
            have hTi := hTh.gr hg8
            have hrd := Rd.new W5 LN.toArray 81 1 22 1 (by simpa using hn22)
            have hWz : w.heap.size ≤ (W5.alloc (.cells LN.toArray 81)).heap.size := hTi.by_.size
            have hown6 := hTi.own
            go_wp2_with (first | (refine wpList_load_row rfl 81 (.tmp 13) rfl Y rfl 81 LN.toArray (0, 0) _ hbY13 Tryz.underlying81 rfl (by rw [List.size_toArray, hn22]; exact infoClip') ?_) | (refine wpList_bs1 rfl 35 81 (.tmp 81) rfl 22 (by kernel_rfl) (by kernel_rfl) (by omega) (by omega) LN hn22 rfl ?_) | (at_builtin; go_loud (refine wpList_append_rd rfl (.tmp 80) (.tmp 82) 35 rfl w.heap.size 81 ic (.agg #[.int .i64 0, .int .i64 0, .int .i64 0, .string ⟨#[]⟩, .int .i64 0, .int .i64 0, .int .i64 0, .int .i64 0, .bool false, .int .i64 0, .string ⟨#[]⟩, .int .i64 0, .int .i64 0, .int .i64 0, .int .i64 0, .bool false, .int .i64 0, .int .i64 0, .int .i64 0, .string ⟨#[]⟩, .int .i64 0, .slice none 0 0]) 22 216 (by kernel_rfl) hic hic0 hic1 hic2 rfl (by decide) (.slice p9 (L.length + 1) c9) _ _ rfl hown6 _ 1 LN.toArray.toList rfl hrd (by simpa using honeN) ?_ ?_ ?_ ?_); (· unfold maxLen; omega); (· omega); (· exact hWz); intro v10 w12 hown9 hgrow9; obtain ⟨p9, c9, rfl⟩ := own_shape hown9))
            have hTj : Tl w T a cap xs (k2 + 1 + 1) (.slice p9 ((L ++ [c]).length + 1) c9) (L ++ [c] ++ [nextC c nl]) w12 := hTi.app hT0.out (nextC c nl) (by rw [hLN2.out]; exact hown9) hgrow9
            rw [hlL] at hTj
            have hok3 : ∀ d ∈ L ++ [c] ++ [nextC c nl], ClOk d ∧ d.ch = [] := fun d hd => by
              rcases List.mem_append.1 hd with h | h
              · exact hok2.out d h
              · rw [List.mem_singleton.1 h]; exact hNx
            replace hok3 := Lib.hid hok3
            have hl3 : (L ++ [c] ++ [nextC c nl]).length = L.length + 2 := by simp
            go_roundw
            case rel => exact ⟨j - 1, k2 + 1 + 1, L ++ [c] ++ [nextC c nl], by first | rfl | rw [e1], by omega, by omega, by omega, hTj, hok3⟩
            case measure => simp [RowKit.intOf]; omega
      · have q2 : (r == 0) = false := by simp [cr]
        go_wp2
        go_roundw
        case rel => exact ⟨j - 1, k2 + 1, L ++ [c], by first | rfl | rw [e1], by omega, by omega, by omega, by rw [hlL] at *; exact hTe, hok2⟩
        case measure => simp [RowKit.intOf]; omega
    · have q1 : decide (0 < (j : Int)) = false := decide_eq_false (by omega)
      go_wp2
      go_ret
      exact ⟨_, L, rfl, hTl'.by_, hTl'.own, by omega, hok.out⟩
set_option maxHeartbeats 4000000 in
theorem fmtrack_any (a : Option Addr) (cap : Nat) (xs : List Int) (w : World) (hA : TapeArg w a cap xs) :
    Calls Tryz.prog 19 #[.slice a xs.length cap] w fun e w' => ∃ (v : Value) (ts : List CM), e = .returned v ∧ Gr w w' ∧ TrR w' v ts ∧ (∀ c ∈ ts, ClOk c.c) ∧ ts.length ≤ 20 ∧ ∀ a n c, v = .slice a n c → n ≤ c := by
  have hT := hA.box 70
  have hTr := Lib.hid (ttrack_any w.heap.size a cap xs 0 _ hT (by omega))
  clear hT hA
  go_enter Tryz.func19, Tryz.ntmps19
  go_wp2_with (go_at_call 48; (with_reducible refine hTr.out.mono ?_); rintro e w2 ⟨v, L, rfl, hB, hown, hl, hok⟩)
  go_ret
  have hgA : Gr w (w.alloc (.cells #[.slice a xs.length cap, .int .i64 0] 70)) := (Gr.refl w).alloc _
  refine ⟨_, L.map cm0, rfl, Gr.grown hgA hB (fun k hk => by injection hk with hk; omega), ⟨?_, cm0_list (fun c hc => (hok c hc).2) _⟩, fun c hc => ?_, by simpa using hl, ?_⟩
  · have := Rd.own hown
    rwa [← List.length_map (f := cm0)] at this
  · obtain ⟨d, hd, rfl⟩ := List.mem_map.1 hc
    exact (hok d hd).1
  · exact own_capE hown
end Go.Proofs.YtgbiodnfpbhjiaaGreatDoor
