/-
  Contract of slices.SortStableFunc of a list of captions, of whatever length.
  Conditions: none.
-/
import Derived.Test.YtckmebfgianeoaaDoorWalkSn
import Derived.Test.YtckmebfgianeoaaDoorWalkSt
namespace Go.Proofs.YtckmebfgianeoaaDoor
open Go.RowKit Go.Lib Go.Sort
set_option linter.unusedSimpArgs false
set_option linter.unusedVariables false

theorem sym_any (g off cap sz : Nat) (d0 : Array TC) (w0 : World) (R : RowT w0 g off d0) (hs : d0.size = sz) (hsz : sz < 4611686018427387904) : ∀ (N : Nat) (d : Array TC) (w : World) (P A B Q : List TC) (a m b : Int), A.length + B.length ≤ N → MArg 3 g off sz w0 d w P A B Q a m b →
    Calls Tryd.prog 103 #[.slice (some ⟨g, off, none⟩) sz cap, .int .i64 a, .int .i64 m, .int .i64 b, .func (.func 63) #[] #[]] w fun e w' => e = .returned (.tuple #[]) ∧ MRes 3 g off sz w0 w' P A B Q := by
  intro N
  induction N with
  | zero => intro d w P A B Q a m b h hM; have := hM.pA; omega
  | succ N ih =>
    intro d w P A B Q a m b hN hM
    have hM0 := hM
    obtain ⟨S, hsd, hd, hA, hB, ht, pA, pB, rfl, rfl, rfl⟩ := hM
    have e1 : (P.length : Int) + A.length = ((P.length + A.length : Nat) : Int) := by omega
    have e2 : (P.length : Int) + A.length + B.length = ((P.length + A.length + B.length : Nat) : Int) := by omega
    have size_of : ∀ (d' : Array TC) (C : List TC), d'.toList = P ++ (C ++ Q) → C.length = A.length + B.length → d'.size = sz := fun d' C h1 h2 => by
      have h3 := size_of_list h1
      have h4 := size_of_list hd
      simp only [List.length_append] at h3 h4
      omega
    by_cases c1 : A.length = 1
    · obtain ⟨x, rfl⟩ := List.length_eq_one_iff.1 c1
      have := sym_one 3 rfl g off cap sz d0 d w0 w R S hs hsd hsz P B Q x hd hB (fun y hy => ht x (List.mem_singleton.2 rfl) y hy) P.length (P.length + 1) (P.length + 1 + B.length) rfl rfl rfl
      rw [show (P.length : Int) + ([x] : List TC).length + B.length = ((P.length + 1 + B.length : Nat) : Int) by simp, show (P.length : Int) + ([x] : List TC).length = ((P.length + 1 : Nat) : Int) by simp]
      refine this.mono ?_
      rintro e w' ⟨rfl, d', C, h1, h2, h3, h4⟩
      exact ⟨rfl, d', C, size_of d' C h1 (by have := h2.length_eq; simp at this ⊢; omega), h1, h2, h3, h4⟩
    · by_cases c2 : B.length = 1
      · obtain ⟨y, rfl⟩ := List.length_eq_one_iff.1 c2
        have := sym_last 3 rfl g off cap sz d0 d w0 w R S hs hsd hsz P A Q y hd hA (fun x hx => ht x hx y (List.mem_singleton.2 rfl)) (by omega) P.length (P.length + A.length) (P.length + A.length + 1) rfl rfl rfl
        rw [show (P.length : Int) + A.length + ([y] : List TC).length = ((P.length + A.length + 1 : Nat) : Int) by simp, e1]
        refine this.mono ?_
        rintro e w' ⟨rfl, d', C, h1, h2, h3, h4⟩
        exact ⟨rfl, d', C, size_of d' C h1 (by have := h2.length_eq; simp at this ⊢; omega), h1, h2.trans (List.perm_append_comm (l₁ := [y]) (l₂ := A)), h3, h4⟩
      · rw [e2, e1] at hM0 ⊢
        exact sym_core 3 rfl g off cap sz d0 d w0 w R hs hsz P A B Q P.length (P.length + A.length) (P.length + A.length + B.length) hM0 (by omega) (by omega) (fun d' w' P' A' B' Q' a' m' b' h1 h2 => ih d' w' P' A' B' Q' a' m' b' (by omega) h2)

set_option maxHeartbeats 1000000 in
theorem ins_any (g off cap sz : Nat) (d0 d : Array TC) (w0 w : World) (R : RowT w0 g off d0) (hs : d0.size = sz) (hsz : sz < 4611686018427387904) (S : SWT w0 g off d w) (hsd : d.size = sz) (X Z Q : List TC) (hd : d.toList = X ++ (Z ++ Q)) (ha : Asc Prod.snd X.length Z) :
    Calls Tryd.prog 102 #[.slice (some ⟨g, off, none⟩) sz cap, .int .i64 X.length, .int .i64 (X.length + Z.length : Nat), .func (.func 63) #[] #[]] w fun e w' => e = .returned (.tuple #[]) ∧
      ∃ (d' : Array TC) (Z' : List TC), d'.size = sz ∧ d'.toList = X ++ (Z' ++ Q) ∧ Z'.Perm Z ∧ Run RT Prod.snd X.length Z' ∧ SWT w0 g off d' w' := by
  have eg : ∀ args w, (callFunc 63 args).run Tryd.prog w = .ok (.enter 63 args) w := enters_of Tryd.func63 (by kernel_rfl) rfl
  subst hsd
  have hz : X.length + Z.length ≤ d.size := by
    have := size_of_list hd
    simp at this
    omega
  have hi := AnyQ.insertionSortCmpFunc Tryd.insSort 3 Tryd.isAgg66 Tryd.sizeOf66 encT encT_len encT_one cfT 63 #[] g off cap X.length (X.length + Z.length) d w eg (cmp_lays 3 g off d.size w) (S.holds R.hblk R.hH hs.symm) (S.lt R.hblk) (by omega) hz (by omega)
  rw [ltOf_cfT] at hi
  change Calls Tryd.prog 102 _ _ _ at hi
  obtain ⟨Z', h1, h2, h3⟩ := ins_run (tag := Prod.snd) ltT_swo hd ha
  generalize Sort.insertionSort ltT d X.length (X.length + Z.length) = r at hi h1
  refine hi.mono ?_
  rintro e w' ⟨rfl, n, os, rfl⟩
  have hrs : r.size = d.size := by
    have h4 := size_of_list h1
    have h5 := size_of_list hd
    have h6 := h2.length_eq
    simp only [List.length_append] at h4 h5
    omega
  exact ⟨rfl, r, Z', hrs, h1, h2, h3, S.on R.hblk n r os hrs⟩

set_option maxHeartbeats 4000000 in
set_option maxRecDepth 20000 in
theorem stable_any (g off cap sz : Nat) (d : Array TC) (w : World) (R : RowT w g off d) (hs : d.size = sz) (hsz : sz < 4611686018427387904) (L : List TC) (hL : d.toList = L) (ha : Asc Prod.snd 0 L) :
    Calls Tryd.prog 83 #[.slice (some ⟨g, off, none⟩) sz cap, .int .i64 sz, .func (.func 63) #[] #[]] w fun e w' => e = .returned (.tuple #[]) ∧ ∃ d' : Array TC, d'.size = sz ∧ SrtT d'.toList ∧ d'.toList.Perm L ∧ SWT w g off d' w' := by
  have HI : Hid (∀ (dk : Array TC) (w' : World) (X Z Q : List TC) (ai bi : Int), SWT w g off dk w' → dk.size = sz → dk.toList = X ++ (Z ++ Q) → Asc Prod.snd X.length Z → ai = X.length → bi = (X.length : Int) + Z.length →
      Calls Tryd.prog 102 #[.slice (some ⟨g, off, none⟩) sz cap, .int .i64 ai, .int .i64 bi, .func (.func 63) #[] #[]] w' fun e w'' => e = .returned (.tuple #[]) ∧
      ∃ (d' : Array TC) (Z' : List TC), d'.size = sz ∧ d'.toList = X ++ (Z' ++ Q) ∧ Z'.Perm Z ∧ Run RT Prod.snd X.length Z' ∧ SWT w g off d' w'') := fun dk w' X Z Q ai bi h1 h2 h3 h4 h5 h6 => by
    rw [h5, h6, show (X.length : Int) + Z.length = ((X.length + Z.length : Nat) : Int) by omega]
    exact ins_any g off cap sz d dk w w' R hs hsz h1 h2 X Z Q h3 h4
  have HM : Hid (∀ (dk : Array TC) (w' : World) (P A B Q : List TC) (a m b : Int), MArg 3 g off sz w dk w' P A B Q a m b →
      Calls Tryd.prog 103 #[.slice (some ⟨g, off, none⟩) sz cap, .int .i64 a, .int .i64 m, .int .i64 b, .func (.func 63) #[] #[]] w' fun e w'' => e = .returned (.tuple #[]) ∧ MRes 3 g off sz w w'' P A B Q) := fun dk w' P A B Q a m b h => sym_any g off cap sz d w R hs hsz _ dk w' P A B Q a m b (Nat.le_refl _) h
  have S0 : Hid (SWT w g off d w) := SWK.start R.hH
  have hL := Lib.hid hL
  have ha := Lib.hid ha
  clear R
  go_enter Tryd.func83, Tryd.ntmps83
  go_wp2
  go_loopw [7, 8] (fun va vb wr => ∃ (a b : Nat) (dk : Array TC), va = .int .i64 a ∧ vb = .int .i64 b ∧ b ≤ a + 20 ∧ a + 20 ≤ b ∧ a ≤ sz ∧ dk.size = sz ∧ Hid (∃ X Z : List TC, dk.toList = X ++ Z ∧ X.length = a ∧ Full RT Prod.snd 20 0 X ∧ Asc Prod.snd a Z ∧ (X ++ Z).Perm L) ∧ Hid (SWT w g off dk wr)) (fun va vb _ => sz + 21 - (RowKit.intOf vb).toNat)
  case atStart => exact ⟨0, 20, d, rfl, rfl, by omega, by omega, Nat.zero_le _, hs, Lib.hid ⟨[], L, hL.out, rfl, Full.nil 0, ha.out, List.Perm.refl _⟩, S0⟩
  case round =>
    obtain ⟨a, b, dk, rfl, rfl, b1, b2, haz, hdk, hX, S1⟩ := hrel
    clear S0
    obtain ⟨X, Z, x1, x2, x3, x4, x5⟩ := hX.out
    have x1 := Lib.hid x1
    have x2 := Lib.hid x2
    have x3 := Lib.hid x3
    have x4 := Lib.hid x4
    have x5 := Lib.hid x5
    have hZl : Hid (Z.length = sz - a) := Lib.hid (by
      have h1 := size_of_list x1.out
      rw [List.length_append, x2.out] at h1
      omega)
    clear hX
    by_cases hle : b ≤ sz
    · have q1 : decide ((b : Int) ≤ (sz : Int)) = true := decide_eq_true (by omega)
      have q2 : decide (b ≤ sz) = true := decide_eq_true hle
      have hsp := x4.out
      rw [← List.take_append_drop 20 Z] at hsp
      have hsp := Lib.hid hsp.split
      go_wp2_with (go_at_call 102; (with_reducible refine (HI.out dk _ X (Z.take 20) (Z.drop 20) _ _ S1.out hdk ?_ ?_ ?_ ?_).mono ?_); (· rw [x1.out, List.take_append_drop]); (· rw [x2.out]; exact hsp.out.1); (· have := x2.out; omega); (· have := x2.out; have := hZl.out; rw [List.length_take]; omega); rintro e w1 ⟨rfl, d1, Z', k1, k2, k3, k4, k5⟩)
      have hzl' : Z'.length = 20 := by have h1 := k3.length_eq; have := hZl.out; rw [List.length_take] at h1; omega
      have hR : Hid (∃ X Z : List TC, d1.toList = X ++ Z ∧ X.length = b ∧ Full RT Prod.snd 20 0 X ∧ Asc Prod.snd b Z ∧ (X ++ Z).Perm L) := by
        have hx2 := x2.out
        refine Lib.hid ⟨X ++ Z', Z.drop 20, by rw [k2, List.append_assoc], by rw [List.length_append]; omega, x3.out.snoc hzl' (by rw [Nat.zero_add]; exact k4), ?_, ?_⟩
        · have h1 := hsp.out.2
          rw [List.length_take] at h1
          have := hZl.out
          rwa [show a + min 20 Z.length = b by omega] at h1
        · refine List.Perm.trans ?_ x5.out
          rw [List.append_assoc]
          refine List.Perm.append_left X ?_
          conv => rhs; rw [← List.take_append_drop 20 Z]
          exact List.Perm.append_right _ k3
      have k5 := Lib.hid k5
      clear k2 k3 k4 hzl' hsp x1 x2 x3 x4 x5 hZl S1
      go_roundw
      case rel => exact ⟨b, b + 20, d1, rfl, by go_num, Nat.le_refl _, Nat.le_refl _, hle, k1, hR, k5⟩
      case measure => simp [RowKit.intOf]; omega
    · have q1 : decide ((b : Int) ≤ (sz : Int)) = false := decide_eq_false (by omega)
      have q2 : decide (b ≤ sz) = false := decide_eq_false hle
      go_wp2_with (go_at_call 102; (with_reducible refine (HI.out dk _ X Z [] _ _ S1.out hdk ?_ ?_ ?_ ?_).mono ?_); (· rw [x1.out, List.append_nil]); (· rw [x2.out]; exact x4.out); (· have := x2.out; omega); (· have := x2.out; have := hZl.out; omega); rintro e w1 ⟨rfl, d1, Z', k1, k2, k3, k4, k5⟩)
      have hR : Hid (Runs RT Prod.snd 20 0 d1.toList ∧ d1.toList.Perm L) := by
        have hx2 := x2.out
        have h1 := k3.length_eq
        have := hZl.out
        rw [k2, List.append_nil]
        refine Lib.hid ⟨x3.out.runs (Runs.last _ Z' (by omega) (by rw [Nat.zero_add]; exact k4)), (List.Perm.append_left X k3).trans x5.out⟩
      have k5 := Lib.hid k5
      clear k2 k3 k4 x1 x2 x3 x4 x5 hZl S1 HI
      go_loopw [6, 7, 8, 9] (fun v6 v7 v8 v9 wr => ∃ (bs : Nat) (dk : Array TC), v6 = .int .i64 bs ∧ 20 ≤ bs ∧ bs < 9223372036854775808 ∧ dk.size = sz ∧ Hid (Runs RT Prod.snd bs 0 dk.toList ∧ dk.toList.Perm L) ∧ Hid (SWT w g off dk wr)) (fun v6 _ _ _ _ => sz - (RowKit.intOf v6).toNat)
      case atStart => exact ⟨20, d1, rfl, Nat.le_refl _, by omega, k1, hR, k5⟩
      case round =>
        obtain ⟨bs, dk, rfl, hb20, hbm, hdk, hV, S1⟩ := hrel
        clear hR k5
        by_cases hlt : bs < sz
        · have p1 : decide ((bs : Int) < (sz : Int)) = true := decide_eq_true (by omega)
          go_wp2
          go_loopw [7, 8] (fun va vb wx => ∃ (a b : Nat) (dk : Array TC), va = .int .i64 a ∧ vb = .int .i64 b ∧ b ≤ a + 2 * bs ∧ a + 2 * bs ≤ b ∧ a ≤ sz ∧ dk.size = sz ∧ Hid (∃ X Y : List TC, dk.toList = X ++ Y ∧ X.length = a ∧ Full RT Prod.snd (2 * bs) 0 X ∧ Runs RT Prod.snd bs a Y ∧ (X ++ Y).Perm L) ∧ Hid (SWT w g off dk wx)) (fun va vb _ => sz + 2 * bs + 1 - (RowKit.intOf vb).toNat)
          case atStart => exact ⟨0, 2 * bs, dk, rfl, by go_num, by omega, by omega, Nat.zero_le _, hdk, Lib.hid ⟨[], dk.toList, rfl, rfl, Full.nil 0, hV.out.1, hV.out.2⟩, S1⟩
          case round =>
            obtain ⟨a, b, dk, rfl, rfl, b1, b2, haz, hdk, hX, S1⟩ := hrel
            obtain ⟨X, Y, x1, x2, x3, x4, x5⟩ := hX.out
            have x1 := Lib.hid x1
            have x2 := Lib.hid x2
            have x3 := Lib.hid x3
            have x4 := Lib.hid x4
            have x5 := Lib.hid x5
            have hYl : Hid (Y.length = sz - a) := Lib.hid (by
              have h1 := size_of_list x1.out
              rw [List.length_append, x2.out] at h1
              omega)
            clear hX hV
            by_cases hle : b ≤ sz
            · have q1 : decide ((b : Int) ≤ (sz : Int)) = true := decide_eq_true (by omega)
              have q2 : decide (b ≤ sz) = true := decide_eq_true hle
              obtain ⟨A, B, l, y1, y2, y3, y4, y5, y6⟩ := x4.out.two (by omega) (by have := hYl.out; omega)
              have y1 := Lib.hid y1
              have y4 := Lib.hid y4
              have y5 := Lib.hid y5
              have y6 := Lib.hid y6
              have y2 := Lib.hid y2
              have y3 := Lib.hid y3
              have hMA : Hid (∀ (ai mi bi : Int), ai = a → mi = (a : Int) + bs → bi = b → MArg 3 g off sz w dk wr X A B l ai mi bi) := Lib.hid (fun ai mi bi f1 f2 f3 => by
                have hx2 := x2.out
                have hy2 := y2.out
                have hy3 := y3.out
                refine ⟨S1.out, hdk, ?_, y4.out.1, y5.out.1, y4.out.apart y5.out, by omega, by omega, by omega, by omega, by omega⟩
                rw [x1.out, y1.out, List.append_assoc])
              go_wp2_with (go_at_call 103; (with_reducible refine (HM.out dk _ X A B l _ _ _ (hMA.out _ _ _ ?_ ?_ ?_)).mono ?_); (· rfl); (· rfl); (· rfl); rintro e w1 ⟨rfl, d2, C, k1, k2, k3, k4, k5⟩)
              have hR2 : Hid (∃ X Y : List TC, d2.toList = X ++ Y ∧ X.length = b ∧ Full RT Prod.snd (2 * bs) 0 X ∧ Runs RT Prod.snd bs b Y ∧ (X ++ Y).Perm L) := by
                have hx2 := x2.out
                have hy2 := y2.out
                have hy3 := y3.out
                have hCl : C.length = 2 * bs := by have h1 := k3.length_eq; rw [List.length_append] at h1; omega
                have hb : a + 2 * bs = b := by omega
                refine Lib.hid ⟨X ++ C, l, by rw [k2, List.append_assoc], by rw [List.length_append]; omega, x3.out.snoc hCl (by rw [Nat.zero_add, hx2]; exact y4.out.join y5.out k3 k4), by rw [← hb]; exact y6.out, ?_⟩
                refine List.Perm.trans ?_ x5.out
                rw [y1.out, List.append_assoc]
                refine List.Perm.append_left X ?_
                rw [← List.append_assoc A]
                exact List.Perm.append_right _ k3
              have k5 := Lib.hid k5
              clear k2 k3 k4 hMA x1 x2 x3 x4 x5 hYl S1 y1 y2 y3 y4 y5 y6
              go_roundw
              case rel => exact ⟨b, b + 2 * bs, d2, rfl, by go_num, Nat.le_refl _, Nat.le_refl _, hle, k1, hR2, k5⟩
              case measure => simp [RowKit.intOf]; omega
            · have q1 : decide ((b : Int) ≤ (sz : Int)) = false := decide_eq_false (by omega)
              have q2 : decide (b ≤ sz) = false := decide_eq_false hle
              by_cases hm : a + bs < sz
              · have p2 : decide ((a : Int) + (bs : Int) < (sz : Int)) = true := decide_eq_true (by omega)
                obtain ⟨A, B, y1, y2, y3, y4, y5⟩ := x4.out.rest (by have := hYl.out; omega) (by have := hYl.out; omega)
                have y1 := Lib.hid y1
                have y2 := Lib.hid y2
                have y3 := Lib.hid y3
                have y4 := Lib.hid y4
                have y5 := Lib.hid y5
                have hMA : Hid (∀ (ai mi bi : Int), ai = a → mi = (a : Int) + bs → bi = sz → MArg 3 g off sz w dk wr X A B [] ai mi bi) := Lib.hid (fun ai mi bi f1 f2 f3 => by
                  have hx2 := x2.out
                  have hy2 := y2.out
                  have hy3 := y3.out
                  have hyl := hYl.out
                  refine ⟨S1.out, hdk, ?_, y4.out.1, y5.out.1, y4.out.apart y5.out, by omega, by omega, by omega, by omega, by omega⟩
                  rw [x1.out, y1.out, List.append_nil])
                go_wp2_with (go_at_call 103; (with_reducible refine (HM.out dk _ X A B [] _ _ _ (hMA.out _ _ _ ?_ ?_ ?_)).mono ?_); (· rfl); (· rfl); (· rfl); rintro e w1 ⟨rfl, d2, C, k1, k2, k3, k4, k5⟩)
                have hR2 : Hid (Runs RT Prod.snd (2 * bs) 0 d2.toList ∧ d2.toList.Perm L) := by
                  have hx2 := x2.out
                  have hy2 := y2.out
                  have hy3 := y3.out
                  have hyl := hYl.out
                  have hCl : C.length ≤ 2 * bs := by have h1 := k3.length_eq; rw [List.length_append] at h1; omega
                  rw [k2, List.append_nil]
                  refine Lib.hid ⟨x3.out.runs (Runs.last _ C hCl (by rw [Nat.zero_add, hx2]; exact y4.out.join y5.out k3 k4)), ?_⟩
                  refine List.Perm.trans ?_ x5.out
                  rw [y1.out]
                  exact List.Perm.append_left X k3
                have k5 := Lib.hid k5
                clear k2 k3 k4 hMA x1 x2 x3 x4 x5 hYl S1 y1 y2 y3 y4 y5
                go_roundw
                case rel => exact ⟨2 * bs, d2, by go_num, by omega, by omega, k1, hR2, k5⟩
                case measure => simp [RowKit.intOf]; omega
              · have p2 : decide ((a : Int) + (bs : Int) < (sz : Int)) = false := decide_eq_false (by omega)
                have hR2 : Hid (Runs RT Prod.snd (2 * bs) 0 dk.toList ∧ dk.toList.Perm L) := by
                  have hx2 := x2.out
                  have hyl := hYl.out
                  rw [x1.out]
                  exact Lib.hid ⟨x3.out.runs (Runs.last _ Y (by omega) (by rw [Nat.zero_add, hx2]; exact x4.out.one (by omega))), x5.out⟩
                clear x1 x2 x3 x4 x5 hYl
                go_wp2
                go_roundw
                case rel => exact ⟨2 * bs, dk, by go_num, by omega, by omega, hdk, hR2, S1⟩
                case measure => simp [RowKit.intOf]; omega
        · have p1 : decide ((bs : Int) < (sz : Int)) = false := decide_eq_false (by omega)
          go_wp2
          go_end0
          have hdl : dk.toList.length = sz := by rw [← hdk]; simp
          exact ⟨rfl, dk, hdk, (hV.out.1.one (by omega)).1, hV.out.2, S1.out⟩

theorem asc_zip (cs : List Cu) : Asc Prod.snd 0 cs.zipIdx := by
  unfold Asc
  rw [List.zipIdx_map_snd, List.length_zipIdx]
set_option maxHeartbeats 1000000 in
/-- what is known of the list behind the sort -/
theorem sort_all (base c : Nat) (a : Option Addr) (cs : List Cu) (w : World) (h : w.ownsRow base 66 3 (.slice a cs.length c) cs.length (flat cs)) (hl : ∀ x ∈ cs, x.lv.oneCell' = true) (hn : cs.length < 4611686018427387904) :
    Calls Tryd.prog 62 #[.slice a cs.length c, .func (.func 63) #[] #[]] w fun e w' => e = .returned (.tuple #[]) ∧ ∃ ts, IsSt cs ts ∧ w.grownBy w' (Value.slice a cs.length c).ownBlock ∧ Rd w' (.slice a cs.length c) cs.length 3 (flat (ts.map Prod.fst)) := by
  rcases Nat.eq_zero_or_pos cs.length with h0 | h0
  · obtain rfl : cs = [] := List.eq_nil_of_length_eq_zero h0
    refine (sort_nil a c w).mono ?_
    rintro e w' ⟨rfl, rfl⟩
    exact ⟨rfl, [], IsSt.of_ord rfl rfl, grownBy_refl _ _, Rd.own h⟩
  obtain ⟨g, rfl, hb, hg, hH⟩ := holdsK_own h hl h0
  have hsz : cs.zipIdx.toArray.size = cs.length := by simp
  have R : RowT w g 0 cs.zipIdx.toArray := ⟨encT_len, encT_one, hH, hg⟩
  have HS : Hid (Calls Tryd.prog 83 #[.slice (some ⟨g, 0, none⟩) cs.length c, .int .i64 cs.length, .func (.func 63) #[] #[]] w fun e w' => e = .returned (.tuple #[]) ∧ ∃ d' : Array TC, d'.size = cs.length ∧ SrtT d'.toList ∧ d'.toList.Perm cs.zipIdx ∧ SWT w g 0 d' w') := stable_any g 0 c cs.length cs.zipIdx.toArray w R hsz hn cs.zipIdx (by simp) (asc_zip cs)
  have core : Calls Tryd.prog 62 #[.slice (some ⟨g, 0, none⟩) cs.length c, .func (.func 63) #[] #[]] w fun e w' => e = .returned (.tuple #[]) ∧ ∃ d' : Array TC, d'.size = cs.length ∧ SrtT d'.toList ∧ d'.toList.Perm cs.zipIdx ∧ SWT w g 0 d' w' := by
    clear R hH h hl
    go_enter Tryd.func62, Tryd.ntmps62
    go_wp2_with (go_at_call 83; (with_reducible refine HS.out.mono ?_); rintro e w' ⟨rfl, d', h1, h2, h3, h4⟩)
    go_end0
    exact ⟨rfl, d', h1, h2, h3, h4⟩
  refine core.mono ?_
  rintro e w' ⟨rfl, D, h1, h2, h3, n, os, rfl⟩
  have hIs : IsSt cs D.toList := ⟨h2, h3⟩
  have hDs : D.size = cs.zipIdx.toArray.size := by rw [hsz]; exact h1
  refine ⟨rfl, D.toList, hIs, putRowK_grown _ _ _ _ _ _, ?_⟩
  have hHd := holdsK_sortWorldK_c encT 3 w g 0 cs.zipIdx.toArray D n os hH hg hDs
  have hlD : ∀ x ∈ D.toList, x.1.lv.oneCell' = true := fun x hx => hl _ (hIs.mem _ (List.mem_map_of_mem hx))
  have hcell := flat_cells hHd hlD
  refine ⟨by rw [flat_length, List.length_map, hIs.len], some ⟨g, 0, none⟩, c, rfl, .inr ⟨g, 0, rfl, ?_, hcell⟩⟩
  exact Nat.lt_of_lt_of_le hg (size_sortWorldK_c encT 3 w g 0 n D os)
end Go.Proofs.YtckmebfgianeoaaDoor
