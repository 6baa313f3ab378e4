/-
  Walk of the law EdlInverse.
  Conditions: the numbers lie in memory; the table of powers is laid.
-/
import Derived.Test.YtgbiodnfpbhjiaaGreatDoorWalkXq
import Derived.Test.YtgbiodnfpbhjiaaGreatDoorShelfB
import Derived.Test.YtgbiodnfpbhjiaaGreatDoorLawEfn
import Derived.Test.YtgbiodnfpbhjiaaGreatDoorLawEfm
import Derived.Test.YtgbiodnfpbhjiaaGreatDoorWalkXp
import Derived.Test.YtgbiodnfpbhjiaaGreatDoorRows
import Derived.Test.YtgbiodnfpbhjiaaGreatDoorWalkRp
import Derived.ProofKit
import Derived.LaidMore
import Derived.LaidOnce
import Derived.Stop.LaidErr
import Derived.Test.YtgbiodnfpbhjiaaGreatDoorKit
import Derived.Lib.SmallJoins
import Derived.Test.YtgbiodnfpbhjiaaGreatDoorWalkBd
import Derived.Test.YtgbiodnfpbhjiaaGreatDoorClip
import Derived.Deep.Slices
import Derived.Deep.Strs
import Derived.SliceStrings
import Derived.ChangeSlices
import Derived.SizedLaws
import Derived.Laws.LoneSync
import Derived.Test.YtgbiodnfpbhjiaaGreatDoorWalkEe
import Derived.Test.YtgbiodnfpbhjiaaGreatDoorWalkTm
import Derived.OpenShut
import Derived.Carry
import Derived.Test.YtgbiodnfpbhjiaaGreatDoorWalkXj
import Derived.Lay
import Derived.Deep.DeepHandedRow
namespace Go.Proofs.YtgbiodnfpbhjiaaGreatDoor
open Go.RowKit Go.Lib
set_option linter.unusedSimpArgs false
set_option linter.unusedVariables false
theorem slice_of_el {w:World} {l:El} {lv:Value} (h:ElR w lv l):∃ p c,lv=.slice p l.evs.length c:=by
 obtain⟨p,c,h1,_⟩:=h.evs.shape
 exact⟨p,c,h1⟩
end Go.Proofs.YtgbiodnfpbhjiaaGreatDoor

namespace Go.Proofs.YtgbiodnfpbhjiaaGreatDoor
open Go.RowKit Go.Lib
set_option linter.unusedSimpArgs false
set_option linter.unusedVariables false
theorem rparse30_any (S:ByteArray) (b:Int) (w:World) (hs:S.size≤2000000) :
  Calls Tryz.prog 27 #[.string S,.int .i64 b] w fun e w'=>∃ (l:El) (lv:Value) (E:Int),e=.returned (.tuple #[l.val lv,.int .i64 E])∧Gr w w'∧ElR w' lv l∧(∀ a n c,lv=.slice a n c→n≤c)∧PrR b S.data.toList l E:=by
 cases hb:C19.okB b false with
 | false=>
  refine (rparse30_base S b w hb).mono ?_
  rintro e w' ⟨rfl,hg⟩
  exact⟨⟨⟨#[]⟩,0,false,[]⟩,.slice none 0 0,1,rfl,hg,⟨EvsR.nil _,by decide,fun e he=>(by cases he),by decide⟩,fun a n c e=>(by injection e;omega),.inl ⟨hb,rfl,rfl⟩⟩
 | true=>
  have hl:=(dvG_length 10 S.data.toList []).1
  rw [ba_len] at hl
  have hz:∀ x∈(dvG 10 [] S.data.toList).map toBa,x.size≤S.size:=fun x hx=>by
   obtain⟨y,hy,rfl⟩:=List.mem_map.1 hx
   have:=dvG_mem 10 S.data.toList [] y hy
   rw [ba_len,List.length_nil] at this
   rw [← ba_len,toBa_list]
   omega
  refine (rparse30_core S b w hs (C19.dayN b false) ((dvG 10 [] S.data.toList).map toBa) (by rw [List.length_map];exact hl) hz (Lib.hid rfl) (Lib.hid fun w=>C19.rday_yes b false w hb) (Lib.hid fun w=>divide30_any S 10 w (by omega)) (Lib.hid fun d=>?_) (Lib.hid fun l v w hl=>?_)).mono ?_
  ·cases hd:C19.okB b d with
   | false=>exact⟨_,_,fun h=>by omega,fun _=>rfl,fun w=>C19.rday_no b d w hd⟩
   | true=>exact⟨_,_,fun _=>rfl,fun h=>absurd rfl h,fun w=>C19.rday_yes b d w hd⟩
  ·cases hv:vEl l with
   | false=>exact⟨_,_,⟨fun h=>by omega,fun h=>by cases h⟩,fun h=>by omega,rformat30_no l v w hl hv⟩
   | true=>exact⟨_,_,⟨fun _=>rfl,fun _=>rfl⟩,fun _=>by simp,rformat30_yes l v w hl hv⟩
  ·rintro e w' ⟨l,lv,E,rfl,hg,hl,hc,hR⟩
   exact⟨l,lv,E,rfl,hg,hl,hc,.inr ⟨hb,hR⟩⟩
theorem fmtB_pos (l:El):1≤(fmtB l).length:=by
 rw [← accB_all]
 have:=accB_ne l l.evs.length
 cases h:accB l l.evs.length with
 | nil=>exact absurd h this
 | cons x r=>simp
theorem lawEps_walk (s:ByteArray) (a:Option Addr) (cap:Nat) (xs:List Int) (at_ c base:Int) (w:World) (hs:s.size≤1048576) (hA:TapeArg w a cap xs) (hat:I64 at_) (hc:0≤c∧c≤255) (hPE:Pow w∧Er w) (hM:Mx w) :
  Calls Tryz.prog 10 #[.string s,.slice a xs.length cap,.int .i64 at_,.int .u8 c,.int .i64 base] w fun e w'=>e=.returned (.bool true)∧Gr w w':=by
 obtain⟨hP,hT⟩:=hPE
 refine lawEps_core s a cap xs at_ c base w hs hat hc (Lib.hid fun w0 hg=>?_) (Lib.hid fun w' hg=>eawake_any w' (Pow.gr hg hP)) (Lib.hid fun l v w' hg hl hv=>?_) (Lib.hid fun x b w' hg hx=>?_) (Lib.hid fun x b w' hg hx=>?_) (Lib.hid fun l v v' w' h h'=>rsame_true l v v' w' h h') (Lib.hid fun l v b x w' hg hl hpr=>?_)
 ·refine (emade_any a cap xs w0 (hA.gr hg)).mono ?_
  rintro e w' ⟨l,v,bs,rfl,hg2,hR,hown,hb,hM⟩
  obtain⟨p,k,rfl⟩:=slice_of_el hR
  exact⟨l,p,k,rfl,hg2,hR,emade_ok hM⟩
 ·refine (eformat_yes l v w' hl hv (Pow.gr hg hP)).mono ?_
  rintro e w2 ⟨rfl,hg2⟩
  exact⟨_,rfl,hg2,by rw [ba_of_size];exact fmtB_pos l,by rw [ba_of_size];exact fmtB_len hv⟩
 ·refine (eParse_any x b w' (Pow.gr hg hP) (hT.gr hg) (hM.gr hg) hx).mono ?_
  rintro e w2 ⟨l,lv,E,rfl,hg2,hl,_,hR⟩
  obtain⟨p,k,rfl⟩:=slice_of_el hl
  exact⟨l,p,k,E,rfl,hg2,hl,Lib.hid hR⟩
 ·refine (rparse30_any x b w' hx).mono ?_
  rintro e w2 ⟨l,lv,E,rfl,hg2,hl,_,hR⟩
  obtain⟨p,k,rfl⟩:=slice_of_el hl
  exact⟨l,p,k,E,rfl,hg2,hl,Lib.hid hR⟩
 ·have hi:IsE l b x.data.toList:=by
   rcases hpr with ⟨_,_,h⟩ | ⟨_,⟨_,h,_⟩ | ⟨h,_⟩⟩
   ·omega
   ·exact h
   ·omega
  have:=eformat_yes l v w' hl hi.1 (Pow.gr hg hP)
  rw [hi.2.2] at this
  have hx:(⟨x.data.toList.toArray⟩:ByteArray)=x:=toBa_of x
  rw [hx] at this
  exact this
end Go.Proofs.YtgbiodnfpbhjiaaGreatDoor

namespace Go.Proofs.YtgbiodnfpbhjiaaGreatDoor
open Go.ChangeShapes Go.WideShapes Go.ChangeAt Go.RowKit
set_option linter.unusedVariables false
theorem powTab:Rows.laid_internal_strconv_uint64pow10 (H:=Unit)=Lib.tabData .u64 Lib.pow10Tab:=by
 unfold Rows.laid_internal_strconv_uint64pow10 Lib.tabData Lib.pow10Tab
 simp [List.range,List.range.loop]
open Go.ChangeShapes Go.WideShapes Go.RowKit Go.Joins Go.Deep
theorem cell_in {w:World} {a:Addr} {v:Value} (h:w.cell? a=some v):a.block<w.heap.size:=by
 unfold World.cell? at h
 cases hb:w.heap[a.block]? with
 | none=>rw [hb] at h;cases h
 | some b=>exact (Array.getElem?_eq_some_iff.1 hb).1
theorem rd_open {w:World} {a:Addr} {len cap size:Nat} {xs:List Value} (hs0:0<size) (hx:xs.length=len * size) (hc:∀ j u,xs[j]?=some u→w.cell? (a.add j)=some u):Rd w (.slice (some a) len cap) len size xs:=by
 refine⟨hx,some a,cap,rfl,?_⟩
 rcases Nat.eq_zero_or_pos len with h | h
 ·exact .inl ⟨h,fun h=>by cases h⟩
 have h0:0<xs.length:=by rw [hx];exact Nat.mul_pos h hs0
 have h1:=hc 0 xs[0] (by simp)
 rw [show a.add 0=a by simp [Addr.add]] at h1
 obtain⟨_,_,_,_,hs⟩:=World.shape?_of_cell? h1
 obtain⟨b,o,s⟩:=a
 simp at hs
 subst hs
 exact .inr ⟨b,o,rfl,cell_in h1,fun j u hj=>by simpa [Addr.add_lit] using hc j u hj⟩
section
variable {H:Type} {enc:TypeId × Value→H} {w:World} {base:Nat} {sp:Nat→Bool} {held:Bool} {fuel:Nat}
theorem ints_open {v:Value} {x:DataW H × List MemPlace} (h:DataW.trod enc Tryz.prog w base sp held fuel 25 [v]=some x) (hw:∀ n∈x.1.weights Tryz.prog 25,n≤reachBytes) :
  ∃ (a:Option Addr) (cap:Nat) (xs:List Int),v=.slice a xs.length cap∧TapeArg w a cap xs:=by
 rcases open_ints Tryz.underlying25 Tryz.underlying3 (by kernel_rfl) h with ⟨e,rfl⟩ | ⟨a,len,cap,zs,e,hb,hlc,hcm,hlen,rfl,hcell,hwf⟩
 ·simp at e;subst e
  exact⟨none,0,[],rfl,⟨Rd.nil w 1,fun s hs=>(by cases hs),by simp⟩⟩
 simp at e;subst e
 have hle:len≤zs.length:=by rw [hlen];split <;> omega
 have hz:(zs.take len).length=len:=by simp [hle]
 have hu:Tryz.prog.underlying 25=some (.slice 3):=Tryz.underlying25
 have hb8:Tryz.prog.bytesOf 3=8:=by kernel_rfl
 refine⟨some a,cap,zs.take len,by rw [hz],?_,?_,?_⟩
 ·rw [hz]
  refine rd_open (by omega) (by simp [hle]) fun j u hj=>?_
  have hj2:j<len:=by
   have:=(List.getElem?_eq_some_iff.1 hj).1
   simp at this;omega
  have h2:=hcell j (by omega)
  rw [h2]
  rw [List.getElem?_map,List.getElem?_take,if_pos hj2,List.getElem?_eq_getElem (show j<zs.length by omega)] at hj
  simp at hj
  rw [List.getD_eq_getElem?_getD,List.getElem?_eq_getElem (show j<zs.length by omega)]
  simp [hj]
 ·intro n hn
  have:=hwf n (List.mem_of_mem_take hn)
  simp [Lit.wf,IntKind.min,IntKind.max,IntKind.signed,IntKind.bits] at this
  omega
 ·rw [hz]
  have:=hw ((lits (H:=H) .i64 (zs.take len)).length * 8+(lits (H:=H) .i64 (zs.drop len)).length * 8) (by
   simp only [DataW.weights,hu,hb8,Nat.add_mul]
   exact List.mem_cons_self ..)
  unfold reachBytes lits at this
  simp at this
  omega
end
theorem weight_at {H:Type} {P:Program} {ts:List TypeId} {ds:List (DataW H)} (h:(DataW.weightsEach P ts ds).all (·≤reachBytes)=true) (j:Nat) {t:TypeId} {d:DataW H} (ht:ts[j]?=some t) (hd:ds[j]?=some d):∀ n∈d.weights P t,n≤reachBytes:=by
 intro n hn
 simpa using List.all_eq_true.1 h _ (DataW.weights_mem_each ht hd n hn)
open Go.ChangeShapes Go.WideShapes Go.ChangeAt Go.RowKit Go.Joins Go.Deep
section
variable {H:Type} {enc:TypeId × Value→H} {P:Program} {w:World} {base:Nat} {sp:Nat→Bool} {held:Bool} {fuel:Nat}
end
section
variable {H:Type} {enc:TypeId × Value→H} {w:World} {base:Nat} {sp:Nat→Bool} {held:Bool} {fuel:Nat}
end
section
variable {H:Type} {enc:TypeId × Value→H} {P:Program} {w:World} {base:Nat} {sp:Nat→Bool} {held:Bool} {fuel:Nat}
end
section
variable {H:Type} {enc:TypeId × Value→H} {w:World} {base:Nat} {sp:Nat→Bool} {held:Bool} {fuel:Nat}
theorem i64_wf {n:Int} (h:(Lit.int IntKind.i64 n).wf=true):I64 n:=by
 simp [Lit.wf,IntKind.min,IntKind.max,IntKind.signed,IntKind.bits] at h
 exact⟨by omega,by omega⟩
end
open Go.ChangeShapes Go.WideShapes Go.ChangeAt Go.RowKit Go.Joins
theorem own:ownKnob Tryz.prog.godebug=none:=by kernel_rfl
theorem laidOut:laidOutB Tryz.prog=true:=by kernel_rfl
theorem trodAll_below {H:Type} {enc:TypeId × Value→H} {P:Program} (hl:laidOutB P=true) {W W':World} (hb:Below W.heap.size W W') :
  ∀ (ts:List TypeId) (vs:List Value) (ds:List (DataW H)) (ps:List MemPlace),ts.all (fun t=>P.readableRec t && decide (t<P.types.size))=true →
   (∀ x∈ps,x.block<W.heap.size)→DataW.TrodAll enc P W 0 (fun _=>true) true ts vs ds ps→DataW.TrodAll enc P W' 0 (fun b=>decide (b<W.heap.size)) true ts vs ds ps
 | [],vs,ds,ps,_,_,h=>by
  obtain⟨rfl,rfl,rfl⟩:=trodAll_nil h
  exact trodAll_mk0
 | t :: ts,vs,ds,ps,ht,hlt,h=>by
  obtain⟨v,vs',d,ds',p,q,rfl,rfl,rfl,h1,h2⟩:=trodAll_cons h
  simp only [List.all_cons,Bool.and_eq_true,decide_eq_true_eq] at ht
  exact trodAll_cons_mk (Below.trod hl ht.1.1 ht.1.2 h1 hb fun x hx=>hlt x (List.mem_append.2 (.inl hx)))
   (trodAll_below hl hb ts vs' ds' q ht.2 (fun x hx=>hlt x (List.mem_append.2 (.inr hx))) h2)
theorem law_post {H:Type} {enc:TypeId × Value→H} {P:Program} {f:Func} {s:ChangeSpec} {W W':World} {args:Array Value} {ds gs:List (DataW H)} {before:List MemPlace} (tb:TypeId)
  (hl:laidOutB P=true) (hp:f.params.toList.all (fun t=>P.readableRec t && decide (t<P.types.size))=true) (hr:f.resultTypes=#[tb]) (hb:P.underlying tb=some .bool) (hv:s.vars=[])
  (h1:(s.fn H (ds ++ gs)).results=[.lit (.bool true)]) (h2:(s.fn H (ds ++ gs)).args=ds) (h3:(s.fn H (ds ++ gs)).vars=[])
  (hW:DataW.Whole enc P f.params.toList s.vars false W args.toList ds gs before) (hg:Below W.heap.size W W'):s.post enc P f false true false false W args (.bool true) W':=by
 have hlt:∀ p∈before,p.block<W.heap.size:=fun p hp=>hW.lt p hp
 have hW':=hW
 obtain⟨p,q,hA,hV,rfl,_,_⟩:=hW
 refine⟨ds,gs,p ++ q,[],p,[],hW',?_,?_,?_,hg.frame _,fun h=>by cases h⟩
 ·rw [h1,hr]
  exact trodAll_mk1 (shut_bool hb _)
 ·rw [h2]
  exact trodAll_below hl hg _ _ _ _ hp (fun x hx=>hlt x (List.mem_append.2 (.inl hx))) hA
 ·rw [h3,hv]
  rfl
theorem i64_of_wf {x:Int} (h:(Lit.int .i64 x).wf=true):-9223372036854775808≤x∧x≤9223372036854775807:=by
 simp [Lit.wf,IntKind.min,IntKind.max,IntKind.signed,IntKind.bits] at h
 exact⟨by omega,by omega⟩
end Go.Proofs.YtgbiodnfpbhjiaaGreatDoor

namespace Go.Proofs.YtgbiodnfpbhjiaaGreatDoor
open Go.ChangeShapes Go.WideShapes Go.ChangeAt Go.RowKit
set_option linter.unusedVariables false
def laid30e:List (String × DataW Unit):=[("math/bits.deBruijn32tab",Rows.laid_math_bits_deBruijn32tab),("math/bits.deBruijn64tab",Rows.laid_math_bits_deBruijn64tab),("internal/strconv.uint64pow10",Rows.laid_internal_strconv_uint64pow10),("unicode/utf8.acceptRanges",Rows.laid_unicode_utf8_acceptRanges),("strconv.ErrRange",Rows.laid_strconv_ErrRange),("strconv.ErrSyntax",Rows.laid_strconv_ErrSyntax),("unicode/utf8.first",Rows.laid_unicode_utf8_first)]
theorem laid30e_met (os:Os) (args:Array Value):laidMetH Tryz.prog laid30e ((World.laidAll Tryz.prog os laid30e).forCall (fun _ _=>0) ⟨#[],args,[]⟩).memory:=by
 rw [MakeChecks.laidMetH_plain _ _ _ (by kernel_rfl)]
 exact laidMet_laidAll _ (by kernel_rfl) (by kernel_rfl)
theorem iface_head {P:Program} {n nm:String} {d:DataW Unit} {r:List (String × DataW Unit)} {W:World} {g:Nat} {ti:TypeId} {ms:Array (String × TypeId)}
  (hg:P.globalNamed n=some g) (ht:(P.globals[g]?).map (·.type)=some ti) (hi:P.underlying ti=some (.interface ms)) (h:laidMet P ((n,.iface nm d) :: r) W):∃ tp p,W.var? P n=some #[.iface tp p]:=by
 obtain⟨ps,⟨g0,t0,cs0,f0,p0,q0,hg0,ht0,hv0,hd0,_,e0⟩,_,_⟩:=h
 obtain rfl:=Option.some.inj (hg.symm.trans hg0)
 obtain rfl:=Option.some.inj (ht.symm.trans ht0)
 obtain⟨l0⟩:=cs0
 obtain⟨f1,u,v,e,_⟩:=iface_of_trod hi hd0
 simp only at e
 exact⟨u,v,by rw [hv0,e]⟩
theorem text_of_laid {W:World} (h:laidMetH Tryz.prog laid30e W):Pow W∧Er W:=by
 rw [MakeChecks.laidMetH_plain _ _ _ (by kernel_rfl)] at h
 have h3:=laidMet.tail (laidMet.tail h)
 have h4:=laidMet.tail (laidMet.tail h3)
 have h5:=laidMet.tail h4
 exact⟨Lib.tabIs_of_head (g:=1) (by kernel_rfl) (by kernel_rfl) Tryz.underlying278 Tryz.underlying114 (by kernel_rfl) (by kernel_rfl) (by rw [← powTab];exact h3),
  iface_head (g:=2) (by kernel_rfl) (by kernel_rfl) Tryz.underlying145 h5,iface_head (g:=3) (by kernel_rfl) (by kernel_rfl) Tryz.underlying145 h4⟩
end Go.Proofs.YtgbiodnfpbhjiaaGreatDoor

namespace Go.Proofs.YtgbiodnfpbhjiaaGreatDoor
open Go.ChangeShapes Go.WideShapes Go.ChangeAt Go.RowKit Go.Joins
end Go.Proofs.YtgbiodnfpbhjiaaGreatDoor

namespace Go.Proofs.YtgbiodnfpbhjiaaGreatDoor
theorem upto_bound {H:Type} {l:List (DataW H)} (hk:Rows.uptoSmall H l=true):Rows.uptoBulkAll l≤1048576:=by
 have h:decide (Rows.uptoBulkAll l≤1048576)=true:=hk
 exact of_decide_eq_true h
theorem upto_str {H:Type} {s:ByteArray} {r:List (DataW H)} (h:Rows.uptoBulkAll (DataW.lit (H:=H) (.string s.data.toList) :: r)≤1048576):s.size≤1048576:=by
 simp only [Rows.uptoBulkAll,Rows.uptoBulk] at h
 simp at h
 omega
end Go.Proofs.YtgbiodnfpbhjiaaGreatDoor

namespace Go.Proofs.YtgbiodnfpbhjiaaGreatDoor
open Go.ChangeShapes Go.WideShapes Go.ChangeAt Go.RowKit Go.Joins Go.Deep
set_option linter.unusedVariables false
end Go.Proofs.YtgbiodnfpbhjiaaGreatDoor
