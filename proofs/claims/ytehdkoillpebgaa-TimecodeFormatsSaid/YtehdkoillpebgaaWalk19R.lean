/-
  Contracts of two and Format of the reference.
  Conditions: the arguments are integers of their kinds.
-/
import Derived.Test.YtehdkoillpebgaaWalk19L
import Derived.Laws.Runes
import Derived.Laws.Concat
namespace Go.Proofs.Ytehdkoillpebgaa
open Go.RowKit
set_option linter.unusedSimpArgs false
set_option linter.unusedVariables false

/-- two digits -/
def dig2 (n : Int) : ByteArray := ⟨#[UInt8.ofNat (48 + n / 10).toNat, UInt8.ofNat (48 + n % 10).toNat]⟩
theorem encode_digit (x : Int) (h0 : 0 ≤ x) (h1 : x < 128) : Utf8.encode x = ⟨#[UInt8.ofNat x.toNat]⟩ := by
  have hv : Utf8.valid x = true := by unfold Utf8.valid; simp; omega
  unfold Utf8.encode
  have : x.toNat < 128 := by omega
  simp [hv, this]
theorem two_any (n : Int) (w : World) (h0 : 0 ≤ n) (h1 : n < 100) :
    Calls Try.prog 43 #[.int .i64 n] w fun e w' => e = .returned (.string (dig2 n)) ∧ w = w' := by
  have e1 := encode_digit (48 + n / 10) (by omega) (by omega)
  have e2 := encode_digit (48 + n % 10) (by omega) (by omega)
  go_enter Try.func43, Try.ntmps43
  go_wp2
  go_ret
  exact ⟨rfl, rfl⟩
theorem dig2_size (n : Int) : (dig2 n).size = 2 := rfl
theorem fmt_cat (h m s f : Int) (d : Bool) : dig2 h ++ ⟨#[58]⟩ ++ dig2 m ++ ⟨#[58]⟩ ++ dig2 s ++ (if d then ⟨#[59]⟩ else ⟨#[58]⟩) ++ dig2 f = fmtS h m s f d := by
  cases d <;> simp [dig2, fmtS, fmtL, ByteArray.mk_append_mk]

set_option maxHeartbeats 1000000 in
theorem rformat_yes (h m s f b V : Int) (d : Bool) (w : World) (h1 : 0 ≤ h ∧ h < 60) (h2 : 0 ≤ m ∧ m < 60) (h3 : 0 ≤ s ∧ s < 60) (h4 : 0 ≤ f ∧ f < 60)
    (H : ∀ w, Calls Try.prog 26 #[.agg #[.int .i64 h, .int .i64 m, .int .i64 s, .int .i64 f, .int .i64 b, .bool d]] w fun e w' => e = .returned (.tuple #[.int .i64 V, .int .i64 0]) ∧ Gr w w') :
    Calls Try.prog 31 #[.agg #[.int .i64 h, .int .i64 m, .int .i64 s, .int .i64 f, .int .i64 b, .bool d]] w fun e w' => e = .returned (.tuple #[.string (fmtS h m s f d), .int .i64 0]) ∧ Gr w w' := by
  have HN := Lib.hid H
  have HC := Lib.hid (fmt_cat h m s f d)
  have z1 := dig2_size h
  have z2 := dig2_size m
  have z3 := dig2_size s
  have z4 := dig2_size f
  clear H
  have T1 := Lib.hid (fun w => two_any h w (by omega) (by omega))
  have T2 := Lib.hid (fun w => two_any m w (by omega) (by omega))
  have T3 := Lib.hid (fun w => two_any s w (by omega) (by omega))
  have T4 := Lib.hid (fun w => two_any f w (by omega) (by omega))
  generalize dig2 h = D1 at *
  generalize dig2 m = D2 at *
  generalize dig2 s = D3 at *
  generalize dig2 f = D4 at *
  cases d
  all_goals
    go_enter Try.func31, Try.ntmps31
    go_wp2_with (go_at_call 26; refine (HN.out _).mono ?_; rintro e w1 ⟨rfl, hg1⟩; obtain ⟨hc1, hf1⟩ := hg1.cells; have hz1 := hg1.size; (try simp at hz1); (try have hl1_0_0 : w.heap.size < w1.heap.size := by omega); (try have hm1_0_0 : w.heap.size ≤ w1.heap.size := by omega); (try have hl1_0_1 : w.heap.size + 1 < w1.heap.size := by omega); (try have hl1_0_2 : w.heap.size + 2 < w1.heap.size := by omega))
    refine wp_region_gr (by kernel_rfl) (by kernel_rfl) (fun hq1 hq2 => ?_)
    repeat (first | go_big_quiet_skip | (go_big_quiet_want; go_big_quiet_op; first | go_big_quiet_on | (apply Exists.intro; refine ⟨fun _ => ?_, ?_⟩; (· ((go_at_call 43; first | (with_reducible exact gr_call_same (T1.out _)) | (with_reducible exact gr_call_same (T2.out _)) | (with_reducible exact gr_call_same (T3.out _)) | (with_reducible exact gr_call_same (T4.out _))))); go_big_quiet_on)))
    refine wpQuiet_nil ?_
    clear hq1 hq2
    rintro w2 ⟨⟨_, hg2⟩, rfl⟩
    obtain ⟨hc2, hf2⟩ := hg2.cells
    have hz2 := hg2.size
    (try simp at hz2); (try have hl2_0_0 : w.heap.size < w2.heap.size := by omega); (try have hm2_0_0 : w.heap.size ≤ w2.heap.size := by omega); (try have hl2_0_1 : w.heap.size + 1 < w2.heap.size := by omega); (try have hl2_0_2 : w.heap.size + 2 < w2.heap.size := by omega); (try have hl2_1_0 : w1.heap.size < w2.heap.size := by omega); (try have hm2_1_0 : w1.heap.size ≤ w2.heap.size := by omega); (try have hl2_1_1 : w1.heap.size + 1 < w2.heap.size := by omega); (try have hl2_1_2 : w1.heap.size + 2 < w2.heap.size := by omega)
    go_wp2
    go_ret2
    exact ⟨by rw [← HC.out]; rfl, (by repeat (first | refine Gr.setCell ?_ (by first | omega | (simp; done) | (simp; omega)) _ | refine Gr.alloc ?_ _ | refine Gr.drew ?_ | refine Gr.drewN ?_ _ | with_reducible assumption | with_reducible exact Gr.refl _ | refine Gr.trans ?_ (by with_reducible assumption)))⟩
theorem rformat_no (h m s f b : Int) (d : Bool) (E : Int) (w : World) (hE : E = 1 ∨ E = 2)
    (H : ∀ w, Calls Try.prog 26 #[.agg #[.int .i64 h, .int .i64 m, .int .i64 s, .int .i64 f, .int .i64 b, .bool d]] w fun e w' => e = .returned (.tuple #[.int .i64 0, .int .i64 E]) ∧ Gr w w') :
    Calls Try.prog 31 #[.agg #[.int .i64 h, .int .i64 m, .int .i64 s, .int .i64 f, .int .i64 b, .bool d]] w fun e w' => e = .returned (.tuple #[.string ByteArray.empty, .int .i64 E]) ∧ Gr w w' := by
  have HN := Lib.hid H
  clear H
  rcases hE with rfl | rfl
  all_goals
    go_enter Try.func31, Try.ntmps31
    go_wp2_with (go_at_call 26; refine (HN.out _).mono ?_; rintro e w1 ⟨rfl, hg1⟩; obtain ⟨hc1, hf1⟩ := hg1.cells; have hz1 := hg1.size; (try simp at hz1); (try have hl1_0_0 : w.heap.size < w1.heap.size := by omega); (try have hm1_0_0 : w.heap.size ≤ w1.heap.size := by omega); (try have hl1_0_1 : w.heap.size + 1 < w1.heap.size := by omega); (try have hl1_0_2 : w.heap.size + 2 < w1.heap.size := by omega))
    simp [bodyPost, results, Try.results31, go_sem]
    exact ⟨rfl, (by repeat (first | refine Gr.setCell ?_ (by first | omega | (simp; done) | (simp; omega)) _ | refine Gr.alloc ?_ _ | refine Gr.drew ?_ | refine Gr.drewN ?_ _ | with_reducible assumption | with_reducible exact Gr.refl _ | refine Gr.trans ?_ (by with_reducible assumption)))⟩
theorem rformat_any (h m s f b : Int) (d : Bool) (w : World) :
    Calls Try.prog 31 #[.agg #[.int .i64 h, .int .i64 m, .int .i64 s, .int .i64 f, .int .i64 b, .bool d]] w fun e w' => e = .returned (.tuple #[.string (fmV h m s f b d), .int .i64 (nmE h m s f b d)]) ∧ Gr w w' := by
  have H := fun w => rnumber_any h m s f b d w
  unfold fmV
  rcases nmE_cases h m s f b d with ⟨e0, ho, hi, hm, e1⟩ | ⟨e0, e1⟩
  · obtain ⟨p1, p2, p3, p4⟩ := inN_out hi
    have hb := okB_bounds ho
    rw [e0] at H ⊢
    exact rformat_yes h m s f b _ d w (by omega) (by omega) (by omega) (by omega) H
  · rw [e1] at H
    rw [if_neg (by omega)]
    exact rformat_no h m s f b d _ w e0 H
end Go.Proofs.Ytehdkoillpebgaa
