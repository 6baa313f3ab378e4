/-
  Contracts of strings.Repeat at a zero digit, at most two; of padded.
  Conditions: the number is not negative and below a thousand.
-/
import Derived.Test.YtgbiodnfpbhjiaaGreatDoorFint
namespace Go.Proofs.YtgbiodnfpbhjiaaGreatDoor
open Go.RowKit Go.Lib
set_option linter.unusedSimpArgs false
set_option linter.unusedVariables false
theorem ret_str {a b:ByteArray} (h:a=b):Ending.returned (.string a)=.returned (.string b):=by rw [h]
set_option maxRecDepth 100000 in
set_option maxHeartbeats 2000000 in
theorem repeat_0 (w:World):Calls Tryz.prog 132 #[.string ⟨#[48]⟩,.int .i64 0] w fun e w'=>e=.returned (.string ⟨#[]⟩)∧Gr w w':=by
 go_enter Tryz.func132,Tryz.ntmps132
 go_wp2
 go_ret
 exact⟨rfl,(by repeat (first | with_reducible exact Gr.refl _ | with_reducible assumption | refine Gr.setCell ?_ (by first | omega | (simp;done) | (simp;omega)) _ | refine Gr.alloc ?_ _ | refine Gr.drew ?_ | refine Gr.drewN ?_ _ | refine Gr.trans ?_ (by with_reducible assumption)))⟩
set_option maxRecDepth 100000 in
set_option maxHeartbeats 2000000 in
theorem repeat_1 (w:World):Calls Tryz.prog 132 #[.string ⟨#[48]⟩,.int .i64 1] w fun e w'=>e=.returned (.string ⟨#[48]⟩)∧Gr w w':=by
 go_enter Tryz.func132,Tryz.ntmps132
 go_wp2
 go_ret
 exact⟨rfl,(by repeat (first | with_reducible exact Gr.refl _ | with_reducible assumption | refine Gr.setCell ?_ (by first | omega | (simp;done) | (simp;omega)) _ | refine Gr.alloc ?_ _ | refine Gr.drew ?_ | refine Gr.drewN ?_ _ | refine Gr.trans ?_ (by with_reducible assumption)))⟩
set_option maxHeartbeats 1000000 in
theorem hp_any (t:ByteArray) (b:Bool) (w:World) (h1:1≤t.size) (h2:t.size≤1000) (h3:((t.extract 0 1).toList == [48])=b) :
  Calls Tryz.prog 172 #[.string t,.string ⟨#[48]⟩] w fun e w'=>e=.returned (.bool b)∧w=w':=by
 have q:decide ((1:Int)≤t.size)=true:=decide_eq_true (by omega)
 have q2:decide (1≤t.size)=true:=decide_eq_true (by omega)
 go_enter Tryz.func172,Tryz.ntmps172
 go_wp2
 go_ret
 exact⟨by rw [← h3];rfl,rfl⟩
set_option maxRecDepth 100000 in
set_option maxHeartbeats 4000000 in
theorem repeat_2 (w:World):Calls Tryz.prog 132 #[.string ⟨#[48]⟩,.int .i64 2] w fun e w'=>e=.returned (.string ⟨#[48,48]⟩)∧Gr w w':=by
 have HM:Hid (∀ w,Calls Tryz.prog 171 #[.int .u64 1,.int .u64 2] w fun e w'=>e=.returned (.tuple #[.int .u64 0,.int .u64 2])∧w=w'):=fun w=>(Tryz.bits_Mul 1 2 (by decide) (by decide) w).mono fun e w' ⟨h1,h2⟩=>⟨h1,h2.symm⟩
 have hz:((⟨#[48]⟩:ByteArray)[0]'(by decide)).toNat=48:=rfl
 go_enter Tryz.func132,Tryz.ntmps132
 go_wp2_with (first
  | (go_at_call 171;(with_reducible refine (HM.out _).mono ?_);rintro e w1 ⟨rfl,rfl⟩)
  | (go_at_call 172;(refine (hp_any _ false _ ?_ ?_ ?_).mono ?_);(· decide +kernel);(· decide +kernel);(· decide +kernel);rintro e w1 ⟨rfl,rfl⟩)
  | (go_at_call 172;(refine (hp_any _ true _ ?_ ?_ ?_).mono ?_);(· decide +kernel);(· decide +kernel);(· decide +kernel);rintro e w1 ⟨rfl,rfl⟩))
 go_ret
 exact⟨ret_str (by decide +kernel),(by repeat (first | with_reducible exact Gr.refl _ | with_reducible assumption | refine Gr.setCell ?_ (by first | omega | (simp;done) | (simp;omega)) _ | refine Gr.alloc ?_ _ | refine Gr.drew ?_ | refine Gr.drewN ?_ _ | refine Gr.trans ?_ (by with_reducible assumption)))⟩
def padL (wd:Nat) (n:Int):List UInt8:=List.replicate (wd - (itoa n).length) 48 ++ itoa n
theorem itoa_len:∀ n:Fin 1000,1≤(itoa n).length∧(n.1<100→(itoa n).length≤2)∧(itoa n).length≤3:=by decide +kernel
end Go.Proofs.YtgbiodnfpbhjiaaGreatDoor
