/-
  What is known of the table of powers; the text of a number. Repeat of a digit; padded numbers.
  Conditions: the listed variable of strconv holds what its text lays.
-/
import Derived.Test.YtgbiodnfpbhjiaaGreatDoorChecked
import Derived.Test.YtgbiodnfpbhjiaaGreatDoorShelf
import Derived.Test.YtgbiodnfpbhjiaaGreatDoorMem
import Derived.WalkSpells
import Derived.WalkLawsBesides
import Derived.Lib.LaidTab
import Derived.Laws.Concat
import Derived.Laws.IdiomStrings
import Derived.Test.YtgbiodnfpbhjiaaGreatDoorKit
namespace Go.Proofs.YtgbiodnfpbhjiaaGreatDoor
open Go.RowKit Go.Lib
set_option linter.unusedSimpArgs false
set_option linter.unusedVariables false
def Pow (w:World):Prop:=Lib.TabIs Tryz.prog w "internal/strconv.uint64pow10" .u64 Lib.pow10Tab
theorem pvar_gr {W w:World} (hg:Gr W w) {n:String} {cs:Array Value} (h:W.var? Tryz.prog n=some cs):w.var? Tryz.prog n=some cs:=by
 unfold World.var? at *
 cases hn:Tryz.prog.globalNamed n with
 | none=>rw [hn] at h;cases h
 | some g=>
  rw [hn] at h
  simp only [Option.bind_some] at h ⊢
  split at h
  ·rename_i c t fr hb
   rw [Below.block hg g (lt_of_block hb),hb]
   exact h
  ·cases h
theorem Pow.gr {W w:World} (hg:Gr W w) (h:Pow W):Pow w:=pvar_gr hg h
theorem gr_grow {w:World} (os:Array Obj):Gr w (Go.Sort.grow w os):=
 ⟨rfl,rfl,rfl,by show w.heap.size≤(w.heap ++ os).size;simp,fun b hb=>by show (w.heap ++ os)[b]?=w.heap[b]?;rw [Array.getElem?_append_left hb]⟩
theorem fint_any (n:Int) (w:World) (hT:Pow w) (h0:-9223372036854775808≤n) (h1:n≤9223372036854775807) :
  Calls Tryz.prog 131 #[.int .i64 n,.int .i64 10] w fun e w'=>e=.returned (.string ⟨(Lib.itoa n).toArray⟩)∧Gr w w':=
 (Tryz.strconv_FormatInt_10 n h0 h1 w hT).mono fun e w' ⟨he,k,os,hw⟩=>⟨he,by rw [hw];exact ((Gr.refl w).drewN k).trans (gr_grow os)⟩
theorem itoa_any (n:Int) (w:World) (hT:Pow w) (h0:-9223372036854775808≤n) (h1:n≤9223372036854775807) :
  Calls Tryz.prog 102 #[.int .i64 n] w fun e w'=>e=.returned (.string ⟨(Lib.itoa n).toArray⟩)∧Gr w w':=
 (Tryz.strconv_Itoa n h0 h1 w hT).mono fun e w' ⟨he,k,os,hw⟩=>⟨he,by rw [hw];exact ((Gr.refl w).drewN k).trans (gr_grow os)⟩
end Go.Proofs.YtgbiodnfpbhjiaaGreatDoor

namespace Go.Proofs.YtgbiodnfpbhjiaaGreatDoor
open Go.RowKit Go.Lib
set_option linter.unusedSimpArgs false
set_option linter.unusedVariables false
theorem ret_str {a b:ByteArray} (h:a=b):Ending.returned (.string a)=.returned (.string b):=by rw [h]
set_option maxRecDepth 100000 in
set_option maxHeartbeats 2000000 in
theorem repeat_0 (w:World):Calls Tryz.prog 132 #[.string ⟨#[48]⟩,.int .i64 0] w fun e w'=>e=.returned (.string ⟨#[]⟩)∧Gr w w':=by
 go_enter Tryz.func132,Tryz.ntmps132
 go_wp2
 go_ret
 exact⟨rfl,(by repeat (first | with_reducible exact Gr.refl _ | with_reducible assumption | refine Gr.setCell ?_ (by first | omega | (simp;done) | (simp;omega)) _ | refine Gr.alloc ?_ _ | refine Gr.drew ?_ | refine Gr.drewN ?_ _ | refine Gr.trans ?_ (by with_reducible assumption)))⟩
set_option maxRecDepth 100000 in
set_option maxHeartbeats 2000000 in
theorem repeat_1 (w:World):Calls Tryz.prog 132 #[.string ⟨#[48]⟩,.int .i64 1] w fun e w'=>e=.returned (.string ⟨#[48]⟩)∧Gr w w':=by
 go_enter Tryz.func132,Tryz.ntmps132
 go_wp2
 go_ret
 exact⟨rfl,(by repeat (first | with_reducible exact Gr.refl _ | with_reducible assumption | refine Gr.setCell ?_ (by first | omega | (simp;done) | (simp;omega)) _ | refine Gr.alloc ?_ _ | refine Gr.drew ?_ | refine Gr.drewN ?_ _ | refine Gr.trans ?_ (by with_reducible assumption)))⟩
set_option maxHeartbeats 1000000 in
theorem hp_any (t:ByteArray) (b:Bool) (w:World) (h1:1≤t.size) (h2:t.size≤1000) (h3:((t.extract 0 1).toList == [48])=b) :
  Calls Tryz.prog 172 #[.string t,.string ⟨#[48]⟩] w fun e w'=>e=.returned (.bool b)∧w=w':=by
 have q:decide ((1:Int)≤t.size)=true:=decide_eq_true (by omega)
 have q2:decide (1≤t.size)=true:=decide_eq_true (by omega)
 go_enter Tryz.func172,Tryz.ntmps172
 go_wp2
 go_ret
 exact⟨by rw [← h3];rfl,rfl⟩
set_option maxRecDepth 100000 in
set_option maxHeartbeats 4000000 in
theorem repeat_2 (w:World):Calls Tryz.prog 132 #[.string ⟨#[48]⟩,.int .i64 2] w fun e w'=>e=.returned (.string ⟨#[48,48]⟩)∧Gr w w':=by
 have HM:Hid (∀ w,Calls Tryz.prog 171 #[.int .u64 1,.int .u64 2] w fun e w'=>e=.returned (.tuple #[.int .u64 0,.int .u64 2])∧w=w'):=fun w=>(Tryz.bits_Mul 1 2 (by decide) (by decide) w).mono fun e w' ⟨h1,h2⟩=>⟨h1,h2.symm⟩
 have hz:((⟨#[48]⟩:ByteArray)[0]'(by decide)).toNat=48:=rfl
 go_enter Tryz.func132,Tryz.ntmps132
 go_wp2_with (first
  | (go_at_call 171;(with_reducible refine (HM.out _).mono ?_);rintro e w1 ⟨rfl,rfl⟩)
  | (go_at_call 172;(refine (hp_any _ false _ ?_ ?_ ?_).mono ?_);(· decide +kernel);(· decide +kernel);(· decide +kernel);rintro e w1 ⟨rfl,rfl⟩)
  | (go_at_call 172;(refine (hp_any _ true _ ?_ ?_ ?_).mono ?_);(· decide +kernel);(· decide +kernel);(· decide +kernel);rintro e w1 ⟨rfl,rfl⟩))
 go_ret
 exact⟨ret_str (by decide +kernel),(by repeat (first | with_reducible exact Gr.refl _ | with_reducible assumption | refine Gr.setCell ?_ (by first | omega | (simp;done) | (simp;omega)) _ | refine Gr.alloc ?_ _ | refine Gr.drew ?_ | refine Gr.drewN ?_ _ | refine Gr.trans ?_ (by with_reducible assumption)))⟩
def padL (wd:Nat) (n:Int):List UInt8:=List.replicate (wd - (itoa n).length) 48 ++ itoa n
theorem itoa_len:∀ n:Fin 1000,1≤(itoa n).length∧(n.1<100→(itoa n).length≤2)∧(itoa n).length≤3:=by decide +kernel
end Go.Proofs.YtgbiodnfpbhjiaaGreatDoor
