/-
  Contracts of strconv.ParseInt and of parseKind of package edl.
  Conditions: the words lie in memory; the listed variables of strconv hold errors.
-/
import Derived.Test.YtgbiodnfpbhjiaaGreatDoorWalkXe
import Derived.Lib.ParseIntBTie
import Derived.Lib.ParseIntBCases
import Derived.Test.YtgbiodnfpbhjiaaGreatDoorWalk19H
import Derived.Laws.Runes
import Derived.Laws.Concat
import Derived.Test.YtgbiodnfpbhjiaaGreatDoorWalkXh
import Derived.Test.YtgbiodnfpbhjiaaGreatDoorWalkBd
import Derived.Outline
namespace Go.Proofs.YtgbiodnfpbhjiaaGreatDoor
open Go.RowKit Go.Lib
set_option linter.unusedSimpArgs false
set_option linter.unusedVariables false
def Er (w:World):Prop:=(∃ tp p,w.var? Tryz.prog "strconv.ErrSyntax"=some #[.iface tp p])∧(∃ tp p,w.var? Tryz.prog "strconv.ErrRange"=some #[.iface tp p])
theorem evar_gr {W w:World} (hg:Gr W w) {n:String} {cs:Array Value} (h:W.var? Tryz.prog n=some cs):w.var? Tryz.prog n=some cs:=by
 unfold World.var? at *
 cases hn:Tryz.prog.globalNamed n with
 | none=>rw [hn] at h;cases h
 | some g=>
  rw [hn] at h
  simp only [Option.bind_some] at h ⊢
  split at h
  ·rename_i c t fr hb
   rw [Below.block hg g (lt_of_block hb),hb]
   exact h
  ·cases h
theorem Er.gr {W w:World} (hg:Gr W w) (h:Er W):Er w:=by
 obtain⟨⟨t1,p1,h1⟩,⟨t2,p2,h2⟩⟩:=h
 exact⟨⟨t1,p1,evar_gr hg h1⟩,⟨t2,p2,evar_gr hg h2⟩⟩
theorem epint_any (s:ByteArray) (w:World) (hT:Er w) (hs:s.size≤140737488355328) :
  Calls Tryz.prog 180 #[.string s,.int .i64 10,.int .i64 64] w fun e w'=>∃ (x:Int) (v:Value),e=.returned (.tuple #[.int .i64 x,v])∧Gr w w'∧((v=.nilIface∧Lib.parseIntB 64 s.data.toList=.ok x)∨((∃ N,v=.iface 289 (.pointer (some ⟨N,0,none⟩)))∧∀ y,Lib.parseIntB 64 s.data.toList≠.ok y)):=by
 cases hp:Lib.parseIntB 64 s.data.toList with
 | ok v=>
  exact (Tryz.strconv_ParseInt_10_at64_ok s (by omega) v hp w).mono fun e w' ⟨he,hw⟩=>⟨v,_,he,by
   rcases hw with rfl | ⟨t,rfl⟩
   ·exact Gr.refl _
   ·exact Lib.bytesWorld_below _ _ _,.inl ⟨rfl,rfl⟩⟩
 | «syntax»=>
  obtain⟨⟨t1,p1,h1⟩,_⟩:=hT
  exact (Tryz.strconv_ParseInt_10_at64_syntax_var s (by omega) hp t1 p1 w h1).mono fun e w' ⟨N,he,_,_,hb⟩=>⟨_,_,he,hb,.inr ⟨⟨N,rfl⟩,fun y h=>by cases h⟩⟩
 | range=>
  obtain⟨_,⟨t2,p2,h2⟩⟩:=hT
  exact (Tryz.strconv_ParseInt_10_at64_range_var s (by omega) hp t2 p2 w h2).mono fun e w' ⟨N,he,_,_,hb⟩=>⟨_,_,he,hb,.inr ⟨⟨N,rfl⟩,fun y h=>by cases h⟩⟩
theorem t3_parse {n:Int} (h0:0≤n) (h1:n<1000):Lib.parseIntB 64 (t3 n)=.ok n:=by
 have key:∀ m:Fin 1000,Lib.parseIntB 64 (t3 (m.val:Int))=.ok (m.val:Int):=by decide +kernel
 have:=key ⟨n.toNat,by omega⟩
 simp only at this
 rwa [show ((n.toNat:Nat):Int)=n by omega] at this
def KdR (ws:List (List UInt8)) (k p fr:Int) (j:Nat) (ok:Bool):Prop:=∀ x rest,vKd x=true→ws=kdW x ++ rest→ok=true∧k=x.k∧p=x.p∧fr=x.fr∧j=(kdW x).length
def evK (k p fr:Int):Value:=.agg #[.int .i64 k,.int .i64 p,.int .i64 fr,.string ⟨#[]⟩,.int .i64 0,.int .i64 0,.int .i64 0,.int .i64 0]
theorem bl_iff (s:ByteArray) (l:List UInt8):(s.toList == l)=decide (s.data.toList=l):=by
 rw [ByteArray.toList_eq]
 exact (Bool.beq_eq_decide_eq _ _)
end Go.Proofs.YtgbiodnfpbhjiaaGreatDoor

namespace Go.Proofs.YtgbiodnfpbhjiaaGreatDoor.C19
open Go.RowKit
set_option linter.unusedSimpArgs false
set_option linter.unusedVariables false
def dig2 (n:Int):ByteArray:=⟨#[UInt8.ofNat (48+n / 10).toNat,UInt8.ofNat (48+n % 10).toNat]⟩
theorem encode_digit (x:Int) (h0:0≤x) (h1:x<128):Utf8.encode x=⟨#[UInt8.ofNat x.toNat]⟩:=by
 have hv:Utf8.valid x=true:=by unfold Utf8.valid;simp;omega
 unfold Utf8.encode
 have:x.toNat<128:=by omega
 simp [hv,this]
theorem two_any (n:Int) (w:World) (h0:0≤n) (h1:n<100) :
  Calls Tryz.prog 137 #[.int .i64 n] w fun e w'=>e=.returned (.string (dig2 n))∧w=w':=by
 have e1:=encode_digit (48+n / 10) (by omega) (by omega)
 have e2:=encode_digit (48+n % 10) (by omega) (by omega)
 go_enter Tryz.func137,Tryz.ntmps137
 go_wp2
 go_ret
 exact⟨rfl,rfl⟩
theorem dig2_size (n:Int):(dig2 n).size=2:=rfl
theorem fmt_cat (h m s f:Int) (d:Bool):dig2 h ++ ⟨#[58]⟩ ++ dig2 m ++ ⟨#[58]⟩ ++ dig2 s ++ (if d then ⟨#[59]⟩ else ⟨#[58]⟩) ++ dig2 f=fmtS h m s f d:=by
 cases d <;> simp [dig2,fmtS,fmtL,ByteArray.mk_append_mk]
set_option maxHeartbeats 1000000 in
theorem rformat_yes (h m s f b V:Int) (d:Bool) (w:World) (h1:0≤h∧h<60) (h2:0≤m∧m<60) (h3:0≤s∧s<60) (h4:0≤f∧f<60)
  (H:∀ w,Calls Tryz.prog 136 #[.agg #[.int .i64 h,.int .i64 m,.int .i64 s,.int .i64 f,.int .i64 b,.bool d]] w fun e w'=>e=.returned (.tuple #[.int .i64 V,.int .i64 0])∧Gr w w') :
  Calls Tryz.prog 105 #[.agg #[.int .i64 h,.int .i64 m,.int .i64 s,.int .i64 f,.int .i64 b,.bool d]] w fun e w'=>e=.returned (.tuple #[.string (fmtS h m s f d),.int .i64 0])∧Gr w w':=by
 have HN:=Lib.hid H
 have HC:=Lib.hid (fmt_cat h m s f d)
 have z1:=dig2_size h
 have z2:=dig2_size m
 have z3:=dig2_size s
 have z4:=dig2_size f
 clear H
 have T1:=Lib.hid (fun w=>two_any h w (by omega) (by omega))
 have T2:=Lib.hid (fun w=>two_any m w (by omega) (by omega))
 have T3:=Lib.hid (fun w=>two_any s w (by omega) (by omega))
 have T4:=Lib.hid (fun w=>two_any f w (by omega) (by omega))
 generalize dig2 h=D1 at *
 generalize dig2 m=D2 at *
 generalize dig2 s=D3 at *
 generalize dig2 f=D4 at *
 cases d
 all_goals
  go_enter Tryz.func105,Tryz.ntmps105
  go_wp2_with (go_at_call 136;refine (HN.out _).mono ?_;rintro e w1 ⟨rfl,hg1⟩;obtain⟨hc1,hf1⟩:=hg1.cells;have hz1:=hg1.size;(try simp at hz1);(try have hl1_0_0:w.heap.size<w1.heap.size:=by omega);(try have hm1_0_0:w.heap.size≤w1.heap.size:=by omega);(try have hl1_0_1:w.heap.size+1<w1.heap.size:=by omega);(try have hl1_0_2:w.heap.size+2<w1.heap.size:=by omega))
  refine wp_region_gr (by kernel_rfl) (by kernel_rfl) (fun hq1 hq2=>?_)
  repeat (first | go_big_quiet_skip | (go_big_quiet_want;go_big_quiet_op;first | go_big_quiet_on | (apply Exists.intro;refine⟨fun _=>?_,?_⟩;(· ((go_at_call 137;first | (with_reducible exact gr_call_same (T1.out _)) | (with_reducible exact gr_call_same (T2.out _)) | (with_reducible exact gr_call_same (T3.out _)) | (with_reducible exact gr_call_same (T4.out _)))));go_big_quiet_on)))
  refine wpQuiet_nil ?_
  clear hq1 hq2
  rintro w2 ⟨⟨_,hg2⟩,rfl⟩
  obtain⟨hc2,hf2⟩:=hg2.cells
  have hz2:=hg2.size
  (try simp at hz2);(try have hl2_0_0:w.heap.size<w2.heap.size:=by omega);(try have hm2_0_0:w.heap.size≤w2.heap.size:=by omega);(try have hl2_0_1:w.heap.size+1<w2.heap.size:=by omega);(try have hl2_0_2:w.heap.size+2<w2.heap.size:=by omega);(try have hl2_1_0:w1.heap.size<w2.heap.size:=by omega);(try have hm2_1_0:w1.heap.size≤w2.heap.size:=by omega);(try have hl2_1_1:w1.heap.size+1<w2.heap.size:=by omega);(try have hl2_1_2:w1.heap.size+2<w2.heap.size:=by omega)
  go_wp2
  go_ret2
  exact⟨by rw [← HC.out];rfl,(by repeat (first | refine Gr.setCell ?_ (by first | omega | (simp;done) | (simp;omega)) _ | refine Gr.alloc ?_ _ | refine Gr.drew ?_ | refine Gr.drewN ?_ _ | with_reducible assumption | with_reducible exact Gr.refl _ | refine Gr.trans ?_ (by with_reducible assumption)))⟩
theorem rformat_no (h m s f b:Int) (d:Bool) (E:Int) (w:World) (hE:E=1∨E=2)
  (H:∀ w,Calls Tryz.prog 136 #[.agg #[.int .i64 h,.int .i64 m,.int .i64 s,.int .i64 f,.int .i64 b,.bool d]] w fun e w'=>e=.returned (.tuple #[.int .i64 0,.int .i64 E])∧Gr w w') :
  Calls Tryz.prog 105 #[.agg #[.int .i64 h,.int .i64 m,.int .i64 s,.int .i64 f,.int .i64 b,.bool d]] w fun e w'=>e=.returned (.tuple #[.string ByteArray.empty,.int .i64 E])∧Gr w w':=by
 have HN:=Lib.hid H
 clear H
 rcases hE with rfl | rfl
 all_goals
  go_enter Tryz.func105,Tryz.ntmps105
  go_wp2_with (go_at_call 136;refine (HN.out _).mono ?_;rintro e w1 ⟨rfl,hg1⟩;obtain⟨hc1,hf1⟩:=hg1.cells;have hz1:=hg1.size;(try simp at hz1);(try have hl1_0_0:w.heap.size<w1.heap.size:=by omega);(try have hm1_0_0:w.heap.size≤w1.heap.size:=by omega);(try have hl1_0_1:w.heap.size+1<w1.heap.size:=by omega);(try have hl1_0_2:w.heap.size+2<w1.heap.size:=by omega))
  simp [bodyPost,results,Tryz.results105,go_sem]
  exact⟨rfl,(by repeat (first | refine Gr.setCell ?_ (by first | omega | (simp;done) | (simp;omega)) _ | refine Gr.alloc ?_ _ | refine Gr.drew ?_ | refine Gr.drewN ?_ _ | with_reducible assumption | with_reducible exact Gr.refl _ | refine Gr.trans ?_ (by with_reducible assumption)))⟩
theorem rformat_any (h m s f b:Int) (d:Bool) (w:World) :
  Calls Tryz.prog 105 #[.agg #[.int .i64 h,.int .i64 m,.int .i64 s,.int .i64 f,.int .i64 b,.bool d]] w fun e w'=>e=.returned (.tuple #[.string (fmV h m s f b d),.int .i64 (nmE h m s f b d)])∧Gr w w':=by
 have H:=fun w=>rnumber_any h m s f b d w
 unfold fmV
 rcases nmE_cases h m s f b d with ⟨e0,ho,hi,hm,e1⟩ | ⟨e0,e1⟩
 ·obtain⟨p1,p2,p3,p4⟩:=inN_out hi
  have hb:=okB_bounds ho
  rw [e0] at H ⊢
  exact rformat_yes h m s f b _ d w (by omega) (by omega) (by omega) (by omega) H
 ·rw [e1] at H
  rw [if_neg (by omega)]
  exact rformat_no h m s f b d _ w e0 H
end Go.Proofs.YtgbiodnfpbhjiaaGreatDoor.C19

namespace Go.Proofs.YtgbiodnfpbhjiaaGreatDoor
open Go.RowKit Go.Lib
set_option linter.unusedSimpArgs false
set_option linter.unusedVariables false
theorem b8_enc (x:Int) (h0:0≤x) (h1:x<128):Utf8.encode x=⟨#[b8 x]⟩:=C19.encode_digit x h0 h1
theorem rthree_any (n:Int) (w:World) (h0:0≤n) (h1:n<1000) :
  Calls Tryz.prog 64 #[.int .i64 n] w fun e w'=>e=.returned (.string ⟨(t3 n).toArray⟩)∧w=w':=by
 have e1:=b8_enc (48+n / 100 % 10) (by omega) (by omega)
 have e2:=b8_enc (48+n / 10 % 10) (by omega) (by omega)
 have e3:=b8_enc (48+n % 10) (by omega) (by omega)
 have hT:Hid ((⟨#[b8 (48+n / 100 % 10)]⟩:ByteArray) ++ ⟨#[b8 (48+n / 10 % 10)]⟩ ++ ⟨#[b8 (48+n % 10)]⟩=⟨(t3 n).toArray⟩):=Lib.hid (by
  rw [show n / 100 % 10=n / 100 by omega]
  unfold t3
  simp [ByteArray.mk_append_mk])
 generalize (⟨(t3 n).toArray⟩:ByteArray)=T at *
 generalize b8 (48+n / 100 % 10)=B1 at *
 generalize b8 (48+n / 10 % 10)=B2 at *
 generalize b8 (48+n % 10)=B3 at *
 go_enter Tryz.func64,Tryz.ntmps64
 go_wp2
 go_ret
 exact⟨by rw [← hT.out];rfl,rfl⟩
def NuR (S:ByteArray) (x:Int):Prop:=∀ n,0≤n→n<1000→S.data.toList=t3 n→x=n
theorem t3_bytes {S:ByteArray} {n:Int} (h0:0≤n) (h1:n<1000) (h:S.data.toList=t3 n):∃ z:S.size=3,((S[0]'(by omega)).toNat:Int)=48+n / 100∧((S[1]'(by omega)).toNat:Int)=48+n / 10 % 10∧((S[2]'(by omega)).toNat:Int)=48+n % 10:=by
 have hS:S=⟨(t3 n).toArray⟩:=by
  cases S with
  | mk d=>
   simp only at h
   rw [← h]
 subst hS
 refine⟨rfl,?_,?_,?_⟩
 ·show ((b8 (48+n / 100)).toNat:Int)=_
  unfold b8;simp [UInt8.toNat_ofNat];omega
 ·show ((b8 (48+n / 10 % 10)).toNat:Int)=_
  unfold b8;simp [UInt8.toNat_ofNat];omega
 ·show ((b8 (48+n % 10)).toNat:Int)=_
  unfold b8;simp [UInt8.toNat_ofNat];omega
set_option maxRecDepth 20000 in
set_option maxHeartbeats 1000000 in
theorem number_len (S:ByteArray) (w:World) (hs:S.size≤140737488355328) (h3:S.size≠3) :
  Calls Tryz.prog 109 #[.string S] w fun e w'=>e=.returned (.int .i64 (-1))∧Gr w w':=by
 have g3:((S.size:Int) != 3)=true:=by simp;omega
 go_enter Tryz.func109,Tryz.ntmps109
 go_wp2
 go_loopw [3,4] (fun n i wr=>∃ (j:Nat) (x:Int),n=.int .i64 x∧i=.int .i64 j∧j≤S.size∧Gr w wr) (fun _ i _=>S.size - (RowKit.intOf i).toNat)
 case atStart=>exact⟨0,0,rfl,rfl,Nat.zero_le _,Gr.refl _⟩
 case round=>
  obtain⟨j,x,rfl,rfl,hj,hg⟩:=hrel
  by_cases c:j<S.size
  ·have q:decide (j<S.size)=true:=decide_eq_true c
   have q':decide ((j:Int)<(S.size:Int))=true:=decide_eq_true (by omega)
   obtain⟨b,hb⟩:∃ b,S[j]=b:=⟨_,rfl⟩
   by_cases c1:(b.toNat:Int)<48
   ·have g1:decide ((b.toNat:Int)<48)=true:=decide_eq_true c1
    go_wp2
    go_ret
    exact⟨rfl,hg⟩
   ·have g1:decide ((b.toNat:Int)<48)=false:=decide_eq_false c1
    by_cases c2:(57:Int)<(b.toNat:Int)
    ·have g2:decide ((57:Int)<(b.toNat:Int))=true:=decide_eq_true c2
     go_wp2
     go_ret
     exact⟨rfl,hg⟩
    ·have g2:decide ((57:Int)<(b.toNat:Int))=false:=decide_eq_false c2
     go_wp2
     go_roundw
     case rel=>exact⟨j+1,_,rfl,by go_num,by omega,hg⟩
     case measure=>simp [RowKit.intOf];omega
  ·have q:decide (j<S.size)=false:=decide_eq_false c
   have q':decide ((j:Int)<(S.size:Int))=false:=decide_eq_false (by omega)
   go_wp2
   go_ret
   exact⟨rfl,hg⟩
set_option maxRecDepth 20000 in
set_option maxHeartbeats 1000000 in
theorem number_three (S:ByteArray) (hs:S.size=3):∃ x,I64 x∧NuR S x∧∀ w,Calls Tryz.prog 109 #[.string S] w fun e w'=>e=.returned (.int .i64 x)∧Gr w w':=by
 have bad:¬ ((48≤(S[0]'(by omega)).toNat∧(S[0]'(by omega)).toNat≤57)∧(48≤(S[1]'(by omega)).toNat∧(S[1]'(by omega)).toNat≤57)∧(48≤(S[2]'(by omega)).toNat∧(S[2]'(by omega)).toNat≤57))→NuR S (-1):=by
  intro hb n h0 h1 h
  obtain⟨z,e0,e1,e2⟩:=t3_bytes h0 h1 h
  exact absurd ⟨by omega,by omega,by omega⟩ hb
 by_cases d0:(48:Int)≤((S[0]'(by omega)).toNat:Int)∧((S[0]'(by omega)).toNat:Int)≤57
 case neg=>
  refine⟨-1,by constructor <;> omega,bad (fun h=>d0 (by omega)),fun w=>?_⟩
  clear bad
  go_enter Tryz.func109,Tryz.ntmps109
  go_wp2
  refine wp_loop_rounds 4 ?_
  rcases (show ((S[0]'(by omega)).toNat:Int)<48∨((48:Int)≤((S[0]'(by omega)).toNat:Int)∧(57:Int)<((S[0]'(by omega)).toNat:Int)) by omega) with h1 | ⟨h1,h2⟩
  all_goals
   repeat (rw [rounds_succ];go_wp2)
   go_ret
   exact⟨rfl,Gr.refl _⟩
 obtain⟨l0,u0⟩:=d0
 by_cases d1:(48:Int)≤((S[1]'(by omega)).toNat:Int)∧((S[1]'(by omega)).toNat:Int)≤57
 case neg=>
  refine⟨-1,by constructor <;> omega,bad (fun h=>d1 (by omega)),fun w=>?_⟩
  clear bad
  go_enter Tryz.func109,Tryz.ntmps109
  go_wp2
  refine wp_loop_rounds 4 ?_
  rcases (show ((S[1]'(by omega)).toNat:Int)<48∨((48:Int)≤((S[1]'(by omega)).toNat:Int)∧(57:Int)<((S[1]'(by omega)).toNat:Int)) by omega) with h1 | ⟨h1,h2⟩
  all_goals
   repeat (rw [rounds_succ];go_wp2)
   go_ret
   exact⟨rfl,Gr.refl _⟩
 obtain⟨l1,u1⟩:=d1
 by_cases d2:(48:Int)≤((S[2]'(by omega)).toNat:Int)∧((S[2]'(by omega)).toNat:Int)≤57
 case neg=>
  refine⟨-1,by constructor <;> omega,bad (fun h=>d2 (by omega)),fun w=>?_⟩
  clear bad
  go_enter Tryz.func109,Tryz.ntmps109
  go_wp2
  refine wp_loop_rounds 4 ?_
  rcases (show ((S[2]'(by omega)).toNat:Int)<48∨((48:Int)≤((S[2]'(by omega)).toNat:Int)∧(57:Int)<((S[2]'(by omega)).toNat:Int)) by omega) with h1 | ⟨h1,h2⟩
  all_goals
   repeat (rw [rounds_succ];go_wp2)
   go_ret
   exact⟨rfl,Gr.refl _⟩
 obtain⟨l2,u2⟩:=d2
 refine⟨((((S[0]'(by omega)).toNat:Int) - 48) * 10+(((S[1]'(by omega)).toNat:Int) - 48)) * 10+(((S[2]'(by omega)).toNat:Int) - 48),by constructor <;> omega,fun n h0 h1 h=>?_,fun w=>?_⟩
 ·obtain⟨z,e0,e1,e2⟩:=t3_bytes h0 h1 h
  omega
 ·clear bad
  go_enter Tryz.func109,Tryz.ntmps109
  go_wp2
  refine wp_loop_rounds 4 ?_
  rw [rounds_succ]
  go_wp2
  rw [rounds_succ]
  go_wp2
  rw [rounds_succ]
  go_wp2
  rw [rounds_succ]
  go_wp2
  go_ret
  exact⟨rfl,Gr.refl _⟩
theorem number_any30 (S:ByteArray) (hs:S.size≤140737488355328):∃ x,I64 x∧NuR S x∧∀ w,Calls Tryz.prog 109 #[.string S] w fun e w'=>e=.returned (.int .i64 x)∧Gr w w':=by
 by_cases h:S.size=3
 ·exact number_three S h
 ·refine⟨-1,by constructor <;> omega,fun n h0 h1 h2=>?_,fun w=>number_len S w hs h⟩
  obtain⟨z,_⟩:=t3_bytes h0 h1 h2
  exact absurd z h
set_option maxHeartbeats 1000000 in
theorem label_core30 (x1 x2 x3 x4 n:Int) (S title:ByteArray) (b:Int) (d:Bool) (lv:Value) (w:World)
  (HL:∀ w',Calls Tryz.prog 104 #[.int .i64 n,.int .i64 b,.bool d] w' fun e w''=>e=.returned (.tuple #[.agg #[.int .i64 x1,.int .i64 x2,.int .i64 x3,.int .i64 x4,.int .i64 b,.bool d],.int .i64 0])∧Gr w' w'')
  (HF:∀ w',Calls Tryz.prog 105 #[.agg #[.int .i64 x1,.int .i64 x2,.int .i64 x3,.int .i64 x4,.int .i64 b,.bool d]] w' fun e w''=>e=.returned (.tuple #[.string S,.int .i64 0])∧Gr w' w'') :
  Calls Tryz.prog 65 #[.int .i64 n,.agg #[.string title,.int .i64 b,.bool d,lv]] w fun e w'=>e=.returned (.string S)∧Gr w w':=by
 replace HL:=Lib.hid HL
 replace HF:=Lib.hid HF
 go_enter Tryz.func65,Tryz.ntmps65
 go_wp2_with (first
  | (go_at_call 104;refine (HL.out _).mono ?_;rintro e w1 ⟨rfl,hg1⟩;obtain⟨hc1,hf1⟩:=hg1.cells;have hz1:=hg1.size;(try simp at hz1);(try have hl1_0_0:w.heap.size<w1.heap.size:=by omega);(try have hm1_0_0:w.heap.size≤w1.heap.size:=by omega);(try have hl1_0_1:w.heap.size+1<w1.heap.size:=by omega);(try have hl1_0_2:w.heap.size+2<w1.heap.size:=by omega))
  | (go_at_call 105;refine (HF.out _).mono ?_;rintro e w2 ⟨rfl,hg2⟩;obtain⟨hc2,hf2⟩:=hg2.cells;have hz2:=hg2.size;(try simp at hz2);(try have hl2_0_0:w.heap.size<w2.heap.size:=by omega);(try have hm2_0_0:w.heap.size≤w2.heap.size:=by omega);(try have hl2_0_1:w.heap.size+1<w2.heap.size:=by omega);(try have hl2_0_2:w.heap.size+2<w2.heap.size:=by omega);(try have hl2_1_0:w1.heap.size<w2.heap.size:=by omega);(try have hm2_1_0:w1.heap.size≤w2.heap.size:=by omega);(try have hl2_1_1:w1.heap.size+1<w2.heap.size:=by omega);(try have hl2_1_2:w1.heap.size+2<w2.heap.size:=by omega)))
 go_ret
 exact⟨rfl,(by repeat (first | refine Gr.setCell ?_ (by first | omega | (simp;done) | (simp;omega)) _ | refine Gr.alloc ?_ _ | refine Gr.drew ?_ | refine Gr.drewN ?_ _ | with_reducible assumption | with_reducible exact Gr.refl _ | refine Gr.trans ?_ (by with_reducible assumption)))⟩
theorem rlabel30_any (n:Int) (title:ByteArray) (b:Int) (d:Bool) (lv:Value) (w:World) (ho:C19.okB b d=true) (h0:0≤n) (h1:n<C19.dayN b d) :
  Calls Tryz.prog 65 #[.int .i64 n,.agg #[.string title,.int .i64 b,.bool d,lv]] w fun e w'=>e=.returned (.string (labS n b d))∧Gr w w':=by
 have hd:=day_bounds ho
 refine label_core30 (C19.lm n b d / 60) (C19.lm n b d % 60) (C19.lf n b d / b) (C19.lf n b d % b) n (labS n b d) title b d lv w (fun w'=>C19.rlabel_any n b d w' ⟨by omega,by omega⟩ ho) (fun w'=>?_)
 have:=C19.rformat_any (C19.lm n b d / 60) (C19.lm n b d % 60) (C19.lf n b d / b) (C19.lf n b d % b) b d w'
 unfold C19.fmV at this
 rw [lab_ok ho h0 h1,if_pos rfl] at this
 exact this
def FmR (b:Int) (d:Bool) (S:ByteArray) (n:Int):Prop:=∀ k,C19.okB b d=true→0≤k→k<C19.dayN b d→S.data.toList=labB k b d→n=k
set_option maxRecDepth 20000 in
set_option maxHeartbeats 2000000 in
theorem frame_core (S title:ByteArray) (b h m s f x E V F:Int) (d dl:Bool) (lv:Value) (w:World)
  (HP:∀ w,Calls Tryz.prog 143 #[.string S,.int .i64 b] w fun e w'=>e=.returned (.tuple #[.agg #[.int .i64 h,.int .i64 m,.int .i64 s,.int .i64 f,.int .i64 x,.bool d],.int .i64 E])∧Gr w w')
  (HN:∀ w,Calls Tryz.prog 136 #[.agg #[.int .i64 h,.int .i64 m,.int .i64 s,.int .i64 f,.int .i64 x,.bool d]] w fun e w'=>e=.returned (.tuple #[.int .i64 V,.int .i64 F])∧Gr w w') :
  Calls Tryz.prog 110 #[.string S,.agg #[.string title,.int .i64 b,.bool dl,lv]] w fun e w'=>e=.returned (.int .i64 (if E=0∧F=0∧d=dl then V else -1))∧Gr w w':=by
 replace HP:=Lib.hid HP
 replace HN:=Lib.hid HN
 obtain⟨R,hR⟩:∃ R,(if E=0∧F=0∧d=dl then V else -1)=R:=⟨_,rfl⟩
 rw [hR]
 by_cases hE:E=0
 ·have qE:(E != 0)=false:=by simp [hE]
  by_cases hF:F=0
  ·have qF:(F != 0)=false:=by simp [hF]
   replace hE:=Lib.hid hE
   replace hF:=Lib.hid hF
   replace hR:Hid (R=if d=dl then V else -1):=Lib.hid (by rw [← hR];simp [hE.out,hF.out])
   cases d <;> cases dl
   all_goals
    go_enter Tryz.func110,Tryz.ntmps110
    go_wp2_with (first
     | (go_at_call 143;refine (HP.out _).mono ?_;rintro e w1 ⟨rfl,hg1⟩;obtain⟨hc1,hf1⟩:=hg1.cells;have hz1:=hg1.size;(try simp at hz1);(try have hl1_0_0:w.heap.size<w1.heap.size:=by omega);(try have hm1_0_0:w.heap.size≤w1.heap.size:=by omega);(try have hl1_0_1:w.heap.size+1<w1.heap.size:=by omega);(try have hl1_0_2:w.heap.size+2<w1.heap.size:=by omega))
     | (go_at_call 136;refine (HN.out _).mono ?_;rintro e w2 ⟨rfl,hg2⟩;obtain⟨hc2,hf2⟩:=hg2.cells;have hz2:=hg2.size;(try simp at hz2);(try have hl2_0_0:w.heap.size<w2.heap.size:=by omega);(try have hm2_0_0:w.heap.size≤w2.heap.size:=by omega);(try have hl2_0_1:w.heap.size+1<w2.heap.size:=by omega);(try have hl2_0_2:w.heap.size+2<w2.heap.size:=by omega);(try have hl2_1_0:w1.heap.size<w2.heap.size:=by omega);(try have hm2_1_0:w1.heap.size≤w2.heap.size:=by omega);(try have hl2_1_1:w1.heap.size+1<w2.heap.size:=by omega);(try have hl2_1_2:w1.heap.size+2<w2.heap.size:=by omega)))
    go_ret
    exact⟨by rw [hR.out];rfl,(by repeat (first | refine Gr.setCell ?_ (by first | omega | (simp;done) | (simp;omega)) _ | refine Gr.alloc ?_ _ | refine Gr.drew ?_ | refine Gr.drewN ?_ _ | with_reducible assumption | with_reducible exact Gr.refl _ | refine Gr.trans ?_ (by with_reducible assumption)))⟩
  ·rw [if_neg (fun h=>hF h.2.1)] at hR
   subst hR
   have qF:(F != 0)=true:=by simp [hF]
   replace hE:=Lib.hid hE
   replace hF:=Lib.hid hF
   go_enter Tryz.func110,Tryz.ntmps110
   go_wp2_with (first
    | (go_at_call 143;refine (HP.out _).mono ?_;rintro e w1 ⟨rfl,hg1⟩;obtain⟨hc1,hf1⟩:=hg1.cells;have hz1:=hg1.size;(try simp at hz1);(try have hl1_0_0:w.heap.size<w1.heap.size:=by omega);(try have hm1_0_0:w.heap.size≤w1.heap.size:=by omega);(try have hl1_0_1:w.heap.size+1<w1.heap.size:=by omega);(try have hl1_0_2:w.heap.size+2<w1.heap.size:=by omega))
    | (go_at_call 136;refine (HN.out _).mono ?_;rintro e w2 ⟨rfl,hg2⟩;obtain⟨hc2,hf2⟩:=hg2.cells;have hz2:=hg2.size;(try simp at hz2);(try have hl2_0_0:w.heap.size<w2.heap.size:=by omega);(try have hm2_0_0:w.heap.size≤w2.heap.size:=by omega);(try have hl2_0_1:w.heap.size+1<w2.heap.size:=by omega);(try have hl2_0_2:w.heap.size+2<w2.heap.size:=by omega);(try have hl2_1_0:w1.heap.size<w2.heap.size:=by omega);(try have hm2_1_0:w1.heap.size≤w2.heap.size:=by omega);(try have hl2_1_1:w1.heap.size+1<w2.heap.size:=by omega);(try have hl2_1_2:w1.heap.size+2<w2.heap.size:=by omega)))
   go_ret
   exact⟨rfl,(by repeat (first | refine Gr.setCell ?_ (by first | omega | (simp;done) | (simp;omega)) _ | refine Gr.alloc ?_ _ | refine Gr.drew ?_ | refine Gr.drewN ?_ _ | with_reducible assumption | with_reducible exact Gr.refl _ | refine Gr.trans ?_ (by with_reducible assumption)))⟩
 ·rw [if_neg (fun h=>hE h.1)] at hR
  subst hR
  have qE:(E != 0)=true:=by simp [hE]
  replace hE:=Lib.hid hE
  go_enter Tryz.func110,Tryz.ntmps110
  go_wp2_with (first
   | (go_at_call 143;refine (HP.out _).mono ?_;rintro e w1 ⟨rfl,hg1⟩;obtain⟨hc1,hf1⟩:=hg1.cells;have hz1:=hg1.size;(try simp at hz1);(try have hl1_0_0:w.heap.size<w1.heap.size:=by omega);(try have hm1_0_0:w.heap.size≤w1.heap.size:=by omega);(try have hl1_0_1:w.heap.size+1<w1.heap.size:=by omega);(try have hl1_0_2:w.heap.size+2<w1.heap.size:=by omega))
   | (go_at_call 136;refine (HN.out _).mono ?_;rintro e w2 ⟨rfl,hg2⟩;obtain⟨hc2,hf2⟩:=hg2.cells;have hz2:=hg2.size;(try simp at hz2);(try have hl2_0_0:w.heap.size<w2.heap.size:=by omega);(try have hm2_0_0:w.heap.size≤w2.heap.size:=by omega);(try have hl2_0_1:w.heap.size+1<w2.heap.size:=by omega);(try have hl2_0_2:w.heap.size+2<w2.heap.size:=by omega);(try have hl2_1_0:w1.heap.size<w2.heap.size:=by omega);(try have hm2_1_0:w1.heap.size≤w2.heap.size:=by omega);(try have hl2_1_1:w1.heap.size+1<w2.heap.size:=by omega);(try have hl2_1_2:w1.heap.size+2<w2.heap.size:=by omega)))
  go_ret
  exact⟨rfl,(by repeat (first | refine Gr.setCell ?_ (by first | omega | (simp;done) | (simp;omega)) _ | refine Gr.alloc ?_ _ | refine Gr.drew ?_ | refine Gr.drewN ?_ _ | with_reducible assumption | with_reducible exact Gr.refl _ | refine Gr.trans ?_ (by with_reducible assumption)))⟩
theorem rframe_any (S:ByteArray) (b:Int) (d:Bool):∃ n,FmR b d S n∧∀ (title:ByteArray) (lv:Value) (w:World),Calls Tryz.prog 110 #[.string S,.agg #[.string title,.int .i64 b,.bool d,lv]] w fun e w'=>e=.returned (.int .i64 n)∧Gr w w':=by
 obtain⟨h,m,s,f,x,dd,E,hT,HP⟩:=rparse_any S b
 refine⟨_,?_,fun title lv w=>frame_core S title b h m s f x E _ _ dd d lv w HP (fun w=>C19.rnumber_any h m s f x dd w)⟩
 intro k ho h0 h1 hl
 obtain⟨rfl,rfl,rfl,rfl,rfl,rfl,rfl⟩:=hT k d ho h0 h1 hl
 rw [if_pos ⟨rfl,lab_ok ho h0 h1,rfl⟩,lab_num ho h0 h1]
end Go.Proofs.YtgbiodnfpbhjiaaGreatDoor

namespace Go.Proofs.YtgbiodnfpbhjiaaGreatDoor
open Go.RowKit Go.Lib
set_option linter.unusedSimpArgs false
set_option linter.unusedVariables false
def toBa (l:List UInt8):ByteArray:=⟨l.toArray⟩
theorem toBa_ex (s:ByteArray) (a b:Nat):toBa ((s.data.toList.take b).drop a)=s.extract a b:=by
 apply ba_ext
 rw [ba_ex]
 unfold toBa
 simp [List.drop_take]
set_option maxRecDepth 20000 in
set_option maxHeartbeats 4000000 in
theorem divide30_any (s:ByteArray) (x:UInt8) (w:World) (hs:s.size<4294967281) :
  Calls Tryz.prog 68 #[.string s,.int .u8 x.toNat] w fun e w'=>∃ v,e=.returned v∧Gr w w'∧StrsR w' v ((dvG x [] s.data.toList).map toBa):=by
 obtain⟨L,hL⟩:∃ L,(dvG x [] s.data.toList).map toBa=L:=⟨_,rfl⟩
 rw [hL]
 have HS:Hid (([]:List ByteArray) ++ (dvG x ((s.data.toList.take 0).drop 0) (s.data.toList.drop 0)).map toBa=L):=by
  refine Lib.hid ?_
  rw [← hL];simp
 clear hL
 obtain⟨is,his,hs0,hs1,hs2⟩:=info_parts infoStr
 go_enter Tryz.func68,Tryz.ntmps68
 go_wp2
 go_loopw [5,6,7] (fun o a i wr=>∃ (ws:List ByteArray) (j k:Nat),a=.int .i64 j∧i=.int .i64 k∧j≤k∧k≤s.size∧Gr w wr∧StrsO w.heap.size 9 wr o ws∧ws.length≤k∧Hid (ws ++ (dvG x ((s.data.toList.take k).drop j) (s.data.toList.drop k)).map toBa=L)) (fun _ _ i _=>s.size+1 - (RowKit.intOf i).toNat)
 case atStart=>exact⟨[],0,0,rfl,rfl,Nat.le_refl _,Nat.zero_le _,Gr.refl w,StrsO.nil _ _ _,Nat.le_refl _,HS⟩
 case round=>
  obtain⟨ws,j,k,rfl,rfl,h1,h2,hg,hO,hwl,hno⟩:=hrel
  clear HS
  have hd:=hno.out
  have hsz:=hg.size
  have hge:=own_ge hO
  obtain⟨po,co,rfl⟩:=own_shape hO
  have hO:=Lib.hid hO
  by_cases c1:k<s.size
  ·have q1:decide ((k:Int)<(s.size:Int))=true:=decide_eq_true (by omega)
   rw [ba_drop s k c1] at hd
   by_cases c5:s[k]=x
   ·have q4:((s[k].toNat:Int) == (x.toNat:Int))=true:=by rw [c5];simp
    rw [dvG,if_pos c5] at hd
    have hV:Hid ((ws ++ [s.extract j k]) ++ (dvG x ((s.data.toList.take (k+1)).drop (k+1)) (s.data.toList.drop (k+1))).map toBa=L):=by
     refine Lib.hid ?_
     rw [← toBa_ex,List.drop_of_length_le (i:=k+1) (by rw [List.length_take];omega),← hd]
     simp
    clear hd hno
    go_wp2_with (at_builtin;go_loud (refine wpList_append_rd rfl (.tmp 19) (.tmp 24) 43 rfl w.heap.size 9 is (.string ByteArray.empty) 1 16 (by kernel_rfl) his hs0 hs1 hs2 rfl (by decide) (.slice po ws.length co) ws.length (ws.map Value.string) rfl (World.ownsRow.alloc hO.out _) _ 1 [.string (s.extract j k)] rfl (Rd.new wr #[.string (s.extract j k)] 9 1 1 1 rfl) ?_ ?_ ?_ ?_ ?_;(· intro u hu;simp at hu;subst hu;rfl);(· unfold maxLen;omega);(· omega);(· simp;omega);intro lv2 w2 hown2 hgrow2))
    have hg2:Gr w w2:=(hg.alloc _).grown hgrow2 hge
    have hO2:StrsO w.heap.size 9 w2 lv2 (ws ++ [s.extract j k]):=by unfold StrsO;rw [List.map_append,List.length_append];exact hown2
    clear hown2 hgrow2
    go_roundw
    case rel=>exact⟨ws ++ [s.extract j k],k+1,k+1,by go_num,by go_num,Nat.le_refl _,by omega,hg2,hO2,by rw [List.length_append];show _+1≤_;omega,hV⟩
    case measure=>simp [RowKit.intOf];omega
   ·have q4:((s[k].toNat:Int) == (x.toNat:Int))=false:=by
     have:s[k].toNat≠x.toNat:=fun e=>c5 (UInt8.toNat_inj.1 e)
     simp;omega
    rw [dvG,if_neg c5] at hd
    have hV:Hid (ws ++ (dvG x ((s.data.toList.take (k+1)).drop j) (s.data.toList.drop (k+1))).map toBa=L):=by
     refine Lib.hid ?_
     have ht:(s.data.toList.take (k+1)).drop j=(s.data.toList.take k).drop j ++ [s[k]]:=by
      rw [← List.take_append_getElem (by rw [ba_len];exact c1),List.drop_append_of_le_length (by rw [List.length_take,ba_len];omega)]
      rfl
     rw [ht]
     exact hd
    clear hd hno
    go_wp2
    go_roundw
    case rel=>exact⟨ws,j,k+1,by go_num,by go_num,by omega,by omega,hg,hO.out,by omega,hV⟩
    case measure=>simp [RowKit.intOf];omega
  ·have q1:decide ((k:Int)<(s.size:Int))=false:=decide_eq_false (by omega)
   have hk:k=s.size:=by omega
   rw [ba_drop_end s k (by omega),dvG] at hd
   have hV:Hid (ws ++ [s.extract j s.size]=L):=by
    refine Lib.hid ?_
    rw [← hd,← toBa_ex,hk]
    rfl
   clear hd hno
   go_wp2_with (at_builtin;go_loud (refine wpList_append_rd rfl (.tmp 28) (.tmp 32) 43 rfl w.heap.size 9 is (.string ByteArray.empty) 1 16 (by kernel_rfl) his hs0 hs1 hs2 rfl (by decide) (.slice po ws.length co) ws.length (ws.map Value.string) rfl (World.ownsRow.alloc hO.out _) _ 1 [.string (s.extract j s.size)] rfl (Rd.new wr #[.string (s.extract j s.size)] 9 1 1 1 rfl) ?_ ?_ ?_ ?_ ?_;(· intro u hu;simp at hu;subst hu;rfl);(· unfold maxLen;omega);(· omega);(· simp;omega);intro lv2 w2 hown2 hgrow2))
   have hg2:Gr w w2:=(hg.alloc _).grown hgrow2 hge
   have hO2:StrsO w.heap.size 9 w2 lv2 (ws ++ [s.extract j s.size]):=by unfold StrsO;rw [List.map_append,List.length_append];exact hown2
   clear hown2 hgrow2
   go_ret
   exact⟨lv2,rfl,hg2,by rw [← hV.out];exact hO2.read⟩
end Go.Proofs.YtgbiodnfpbhjiaaGreatDoor
