/-
  Contracts of the exchange of two ranges of captions and of a rotation, between worlds of a sort.
  Conditions: none.
-/
import Derived.Test.YtckmebfgianeoaaDoorWalkSo
import Derived.Test.YtckmebfgianeoaaDoorMathY
import Derived.Shelf.SlSortCmp.KitK
namespace Go.Proofs.YtckmebfgianeoaaDoor
open Go.RowKit Go.Lib Go.Sort
set_option linter.unusedSimpArgs false
set_option linter.unusedVariables false

abbrev SWT (w0 : World) (g off : Nat) (d : Array TC) (w : World) : Prop := SWK encT 3 w0 g off d w
abbrev RowT (w0 : World) (g off : Nat) (d : Array TC) : Prop := RowK encT 3 w0 g off d
theorem size_of_list {d : Array TC} {l : List TC} (h : d.toList = l) : d.size = l.length := by rw [← h]; simp

set_option maxHeartbeats 4000000 in
set_option maxRecDepth 1000000 in
theorem swr_core (k : Nat) (hk3 : 3 = k) (g off cap sz : Nat) (d0 d : Array TC) (w0 w : World) (R : RowK encT k w0 g off d0) (S : SWK encT k w0 g off d w) (hs : d0.size = sz) (hsd : d.size = sz) (hsz : sz < 4611686018427387904) (P A M B Q : List TC) (hd : d.toList = P ++ (A ++ (M ++ (B ++ Q)))) (hAB : A.length = B.length) (a b n : Nat) (ha : a = P.length) (hb : b = P.length + A.length + M.length) (hn : n = A.length) :
    Calls Tryd.prog 132 #[.slice (some ⟨g, off, none⟩) sz cap, .int .i64 a, .int .i64 b, .int .i64 n, .func (.func 63) #[] #[]] w fun e w' => e = .returned (.tuple #[]) ∧ ∃ d' : Array TC, d'.toList = P ++ (B ++ (M ++ (A ++ Q))) ∧ SWK encT k w0 g off d' w' := by
  have hz : b + n ≤ sz := by
    have := size_of_list hd
    simp at this
    omega
  have hab : a + n ≤ b := by omega
  have S0 : Hid (SWK encT k w0 g off d w) := S
  have hd : Hid (d.toList = P ++ (A ++ (M ++ (B ++ Q)))) := hd
  have hE : Hid (a = P.length ∧ b = P.length + A.length + M.length ∧ n = A.length ∧ A.length = B.length) := ⟨ha, hb, hn, hAB⟩
  clear S ha hb hn hAB
  have mixed : Tryd.prog.follows .mixedOrders = true := by kernel_rfl
  have aE : ∀ w, (isAgg 66).run Tryd.prog w = .ok true w := Tryd.isAgg66
  have zE : ∀ w, (Go.sizeOf 66).run Tryd.prog w = .ok k w := fun w => by rw [← hk3]; exact Tryd.sizeOf66 w
  clear hk3
  go_enter Tryd.func132, Tryd.ntmps132
  go_wp2
  go_loopw [10] (fun vi wr => ∃ (i : Nat) (dk : Array TC), vi = .int .i64 i ∧ i ≤ n ∧ dk.size = sz ∧ Hid (dk.toList = P ++ ((B.take i ++ A.drop i) ++ (M ++ ((A.take i ++ B.drop i) ++ Q)))) ∧ Hid (SWK encT k w0 g off dk wr)) (fun vi _ => n - (RowKit.intOf vi).toNat)
  case atStart => exact ⟨0, d, rfl, Nat.zero_le _, hsd, Lib.hid (by simpa using hd.out), S0⟩
  case round =>
    obtain ⟨i, dk, rfl, hi, hdk, hl, S1⟩ := hrel
    clear S0
    by_cases hlt : i < n
    · have q1 : decide ((i : Int) < (n : Int)) = true := decide_eq_true (by omega)
      go_wp2_with fail
      have ea : ((a : Int) + (i : Int)).toNat = a + i := by omega
      have pa : (0 : Int) ≤ (a : Int) + (i : Int) := by omega
      have ba : (a : Int) + (i : Int) < (sz : Int) := by omega
      have ra : IntKind.i64.wrap ((a : Int) + (i : Int)) = (a : Int) + (i : Int) := by rw [IntKind.wrap_i64]; omega
      have eb : ((b : Int) + (i : Int)).toNat = b + i := by omega
      have pb : (0 : Int) ≤ (b : Int) + (i : Int) := by omega
      have bb : (b : Int) + (i : Int) < (sz : Int) := by omega
      have rb : IntKind.i64.wrap ((b : Int) + (i : Int)) = (b : Int) + (i : Int) := by rw [IntKind.wrap_i64]; omega
      have S2 : Hid (SWK encT k w0 g off (swp dk (a + i) (b + i)) ((wr.drew.setCells g (off + (a + i) * k) (encT dk[b + i]!)).setCells g (off + (b + i) * k) (encT dk[a + i]!))) := S1.out.swapped R (a + i) (b + i) (by omega) (by omega)
      have la := S1.out.ld1 R (by omega) Tryd.prog (a + i) (by omega)
      have lb := S1.out.ld1 R (by omega) Tryd.prog (b + i) (by omega)
      have sa := S1.out.st1 R (by omega) Tryd.prog (a + i) (by omega) dk[b + i]!
      have sb := S1.out.st2 R (by omega) Tryd.prog (a + i) (b + i) (by omega) (by omega) dk[b + i]! dk[a + i]!
      have na : (encT dk[a + i]!).length = k := R.hk _
      have nb : (encT dk[b + i]!).length = k := R.hk _
      generalize encT dk[a + i]! = cI at S2 la sb na
      generalize encT dk[b + i]! = cJ at S2 lb sa sb nb
      clear S1
      go_wp2_with fail
      go_big_region_o
      clear la lb sa sb
      generalize (wr.drew.setCells g (off + (a + i) * k) cJ).setCells g (off + (b + i) * k) cI = w2 at S2 ⊢
      have hl2 : Hid ((swp dk (a + i) (b + i)).toList = P ++ ((B.take (i + 1) ++ A.drop (i + 1)) ++ (M ++ ((A.take (i + 1) ++ B.drop (i + 1)) ++ Q)))) := by
        obtain ⟨e1, e2, e3, e4⟩ := hE.out
        rw [e1, e2]
        exact Lib.hid (swr_step (by omega) e4 hl.out)
      go_wp2
      go_roundw
      case rel => exact ⟨i + 1, swp dk (a + i) (b + i), by go_num, by omega, by rw [size_swp]; exact hdk, hl2, S2⟩
      case measure => simp [RowKit.intOf]; omega
    · have q1 : decide ((i : Int) < (n : Int)) = false := decide_eq_false (by omega)
      go_wp2
      go_end0
      obtain ⟨e1, e2, e3, e4⟩ := hE.out
      have hin : i = A.length := by omega
      refine ⟨rfl, dk, ?_, S1.out⟩
      rw [hl.out, hin, List.drop_length, List.take_length, e4, List.take_length, List.drop_length]
      simp
theorem swr_any (g off cap sz : Nat) (d0 d : Array TC) (w0 w : World) (R : RowT w0 g off d0) (S : SWT w0 g off d w) (hs : d0.size = sz) (hsd : d.size = sz) (hsz : sz < 4611686018427387904) (P A M B Q : List TC) (hd : d.toList = P ++ (A ++ (M ++ (B ++ Q)))) (hAB : A.length = B.length) (a b n : Nat) (ha : a = P.length) (hb : b = P.length + A.length + M.length) (hn : n = A.length) :
    Calls Tryd.prog 132 #[.slice (some ⟨g, off, none⟩) sz cap, .int .i64 a, .int .i64 b, .int .i64 n, .func (.func 63) #[] #[]] w fun e w' => e = .returned (.tuple #[]) ∧ ∃ d' : Array TC, d'.toList = P ++ (B ++ (M ++ (A ++ Q))) ∧ SWT w0 g off d' w' :=
  swr_core 3 rfl g off cap sz d0 d w0 w R S hs hsd hsz P A M B Q hd hAB a b n ha hb hn
end Go.Proofs.YtckmebfgianeoaaDoor
