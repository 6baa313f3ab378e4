/-
  What the rows' condition on the laid variables gives a walk of chapter 30.
  Conditions: none.
-/
import Derived.Test.YtnginfangeikpaaGreatDoorRows
import Derived.Test.YtnginfangeikpaaGreatDoorWalkRp
import Derived.ProofKit
import Derived.LaidMore
import Derived.LaidOnce
import Derived.Stop.LaidErr
import Derived.Test.YtnginfangeikpaaGreatDoorKit
import Derived.Lib.SmallJoins
import Derived.Test.YtnginfangeikpaaGreatDoorShS
import Derived.Test.YtnginfangeikpaaGreatDoorWalkTp
import Derived.Deep.Slices
import Derived.Deep.Strs
import Derived.SliceStrings
import Derived.ChangeSlices
import Derived.SizedLaws
import Derived.Laws.LoneSync
import Derived.OpenShut
import Derived.Carry
namespace Go.Proofs.YtnginfangeikpaaGreatDoor
open Go.ChangeShapes Go.WideShapes Go.ChangeAt Go.RowKit
set_option linter.unusedVariables false
def laid30z:List (String × DataW Unit):=[("math/bits.deBruijn32tab",Rows.laid_math_bits_deBruijn32tab),("math/bits.deBruijn64tab",Rows.laid_math_bits_deBruijn64tab),("internal/strconv.uint64pow10",Rows.laid_internal_strconv_uint64pow10)]
theorem laid30z_met (os:Os) (args:Array Value):laidMetH Tryz.prog laid30z ((World.doorLaid Tryz.prog 24 os).forCall (fun _ _=>0) ⟨#[],args,[]⟩).memory:=
 laidMetH_of_parts3 (fuel:=8) (laidMet_of_run' 8 (by kernel_rfl) (by kernel_rfl)) (by kernel_rfl) (by kernel_rfl)
theorem powTabz:Rows.laid_internal_strconv_uint64pow10 (H:=Unit)=Lib.tabData .u64 Lib.pow10Tab:=by
 unfold Rows.laid_internal_strconv_uint64pow10 Lib.tabData Lib.pow10Tab
 simp [List.range,List.range.loop]
theorem pow_of_laidz {W:World} (h:laidMetH Tryz.prog laid30z W):Pow W:=by
 rw [MakeChecks.laidMetH_plain _ _ _ (by kernel_rfl)] at h
 exact Lib.tabIs_of_head (g:=0) (by kernel_rfl) (by kernel_rfl) Tryz.underlying236 Tryz.underlying67 (by kernel_rfl) (by kernel_rfl) (by rw [← powTabz];exact laidMet.tail (laidMet.tail h))
open Go.ChangeShapes Go.WideShapes Go.RowKit Go.Joins Go.Deep
theorem cell_in {w:World} {a:Addr} {v:Value} (h:w.cell? a=some v):a.block<w.heap.size:=by
 unfold World.cell? at h
 cases hb:w.heap[a.block]? with
 | none=>rw [hb] at h;cases h
 | some b=>exact (Array.getElem?_eq_some_iff.1 hb).1
theorem rd_open {w:World} {a:Addr} {len cap size:Nat} {xs:List Value} (hs0:0<size) (hx:xs.length=len * size) (hc:∀ j u,xs[j]?=some u→w.cell? (a.add j)=some u):Rd w (.slice (some a) len cap) len size xs:=by
 refine⟨hx,some a,cap,rfl,?_⟩
 rcases Nat.eq_zero_or_pos len with h | h
 ·exact .inl ⟨h,fun h=>by cases h⟩
 have h0:0<xs.length:=by rw [hx];exact Nat.mul_pos h hs0
 have h1:=hc 0 xs[0] (by simp)
 rw [show a.add 0=a by simp [Addr.add]] at h1
 obtain⟨_,_,_,_,hs⟩:=World.shape?_of_cell? h1
 obtain⟨b,o,s⟩:=a
 simp at hs
 subst hs
 exact .inr ⟨b,o,rfl,cell_in h1,fun j u hj=>by simpa [Addr.add_lit] using hc j u hj⟩
section
variable {H:Type} {enc:TypeId × Value→H} {w:World} {base:Nat} {sp:Nat→Bool} {held:Bool} {fuel:Nat}
theorem ints_open {v:Value} {x:DataW H × List MemPlace} (h:DataW.trod enc Tryz.prog w base sp held fuel 22 [v]=some x) (hw:∀ n∈x.1.weights Tryz.prog 22,n≤reachBytes) :
  ∃ (a:Option Addr) (cap:Nat) (xs:List Int),v=.slice a xs.length cap∧TapeArg w a cap xs:=by
 rcases open_ints Tryz.underlying22 Tryz.underlying3 (by kernel_rfl) h with ⟨e,rfl⟩ | ⟨a,len,cap,zs,e,hb,hlc,hcm,hlen,rfl,hcell,hwf⟩
 ·simp at e;subst e
  exact⟨none,0,[],rfl,⟨Rd.nil w 1,fun s hs=>(by cases hs),by simp⟩⟩
 simp at e;subst e
 have hle:len≤zs.length:=by rw [hlen];split <;> omega
 have hz:(zs.take len).length=len:=by simp [hle]
 have hu:Tryz.prog.underlying 22=some (.slice 3):=Tryz.underlying22
 have hb8:Tryz.prog.bytesOf 3=8:=by kernel_rfl
 refine⟨some a,cap,zs.take len,by rw [hz],?_,?_,?_⟩
 ·rw [hz]
  refine rd_open (by omega) (by simp [hle]) fun j u hj=>?_
  have hj2:j<len:=by
   have:=(List.getElem?_eq_some_iff.1 hj).1
   simp at this;omega
  have h2:=hcell j (by omega)
  rw [h2]
  rw [List.getElem?_map,List.getElem?_take,if_pos hj2,List.getElem?_eq_getElem (show j<zs.length by omega)] at hj
  simp at hj
  rw [List.getD_eq_getElem?_getD,List.getElem?_eq_getElem (show j<zs.length by omega)]
  simp [hj]
 ·intro n hn
  have:=hwf n (List.mem_of_mem_take hn)
  simp [Lit.wf,IntKind.min,IntKind.max,IntKind.signed,IntKind.bits] at this
  omega
 ·rw [hz]
  have:=hw ((lits (H:=H) .i64 (zs.take len)).length * 8+(lits (H:=H) .i64 (zs.drop len)).length * 8) (by
   simp only [DataW.weights,hu,hb8,Nat.add_mul]
   exact List.mem_cons_self ..)
  unfold reachBytes lits at this
  simp at this
  omega
end
theorem weight_at {H:Type} {P:Program} {ts:List TypeId} {ds:List (DataW H)} (h:(DataW.weightsEach P ts ds).all (·≤reachBytes)=true) (j:Nat) {t:TypeId} {d:DataW H} (ht:ts[j]?=some t) (hd:ds[j]?=some d):∀ n∈d.weights P t,n≤reachBytes:=by
 intro n hn
 simpa using List.all_eq_true.1 h _ (DataW.weights_mem_each ht hd n hn)
open Go.ChangeShapes Go.WideShapes Go.ChangeAt Go.RowKit Go.Joins
theorem own:ownKnob Tryz.prog.godebug=none:=by kernel_rfl
theorem laidOut:laidOutB Tryz.prog=true:=by kernel_rfl
theorem trodAll_below {H:Type} {enc:TypeId × Value→H} {P:Program} (hl:laidOutB P=true) {W W':World} (hb:Below W.heap.size W W') :
  ∀ (ts:List TypeId) (vs:List Value) (ds:List (DataW H)) (ps:List MemPlace),ts.all (fun t=>P.readableRec t && decide (t<P.types.size))=true →
   (∀ x∈ps,x.block<W.heap.size)→DataW.TrodAll enc P W 0 (fun _=>true) true ts vs ds ps→DataW.TrodAll enc P W' 0 (fun b=>decide (b<W.heap.size)) true ts vs ds ps
 | [],vs,ds,ps,_,_,h=>by
  obtain⟨rfl,rfl,rfl⟩:=trodAll_nil h
  exact trodAll_mk0
 | t :: ts,vs,ds,ps,ht,hlt,h=>by
  obtain⟨v,vs',d,ds',p,q,rfl,rfl,rfl,h1,h2⟩:=trodAll_cons h
  simp only [List.all_cons,Bool.and_eq_true,decide_eq_true_eq] at ht
  exact trodAll_cons_mk (Below.trod hl ht.1.1 ht.1.2 h1 hb fun x hx=>hlt x (List.mem_append.2 (.inl hx)))
   (trodAll_below hl hb ts vs' ds' q ht.2 (fun x hx=>hlt x (List.mem_append.2 (.inr hx))) h2)
theorem law_post {H:Type} {enc:TypeId × Value→H} {P:Program} {f:Func} {s:ChangeSpec} {W W':World} {args:Array Value} {ds gs:List (DataW H)} {before:List MemPlace} (tb:TypeId)
  (hl:laidOutB P=true) (hp:f.params.toList.all (fun t=>P.readableRec t && decide (t<P.types.size))=true) (hr:f.resultTypes=#[tb]) (hb:P.underlying tb=some .bool) (hv:s.vars=[])
  (h1:(s.fn H (ds ++ gs)).results=[.lit (.bool true)]) (h2:(s.fn H (ds ++ gs)).args=ds) (h3:(s.fn H (ds ++ gs)).vars=[])
  (hW:DataW.Whole enc P f.params.toList s.vars false W args.toList ds gs before) (hg:Below W.heap.size W W'):s.post enc P f false true false false W args (.bool true) W':=by
 have hlt:∀ p∈before,p.block<W.heap.size:=fun p hp=>hW.lt p hp
 have hW':=hW
 obtain⟨p,q,hA,hV,rfl,_,_⟩:=hW
 refine⟨ds,gs,p ++ q,[],p,[],hW',?_,?_,?_,hg.frame _,fun h=>by cases h⟩
 ·rw [h1,hr]
  exact trodAll_mk1 (shut_bool hb _)
 ·rw [h2]
  exact trodAll_below hl hg _ _ _ _ hp (fun x hx=>hlt x (List.mem_append.2 (.inl hx))) hA
 ·rw [h3,hv]
  rfl
end Go.Proofs.YtnginfangeikpaaGreatDoor
