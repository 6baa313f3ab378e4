/-
  Contracts of the methods of strings.Builder, the builder in whatever place of a block that is known whole.
  Conditions: what is written takes at most 2^47 bytes.
-/
import Derived.Test.YtnginfangeikpaaGreatDoorMem
import Derived.Test.YtnginfangeikpaaGreatDoorChecked
import Derived.WalkSpells
import Derived.WalkLawsBesides
import Derived.Lib.UnsafeStr
import Derived.Laws.Externs
import Derived.Test.YtnginfangeikpaaGreatDoorKit
import Derived.Test.YtnginfangeikpaaGreatDoorShW
import Derived.Test.YtnginfangeikpaaGreatDoorWalkA
import Derived.Lib.LaidTab
import Derived.Laws.Concat
import Derived.Laws.IdiomStrings
namespace Go.Proofs.YtnginfangeikpaaGreatDoor
open Go.RowKit Go.Lib
set_option linter.unusedSimpArgs false
set_option linter.unusedVariables false
theorem infoBld:(Tryz.prog.info? 116).map (·.size)=some 2:=by kernel_rfl
theorem infoByte:(Tryz.prog.info? 5).map (fun i=>(i.zero,i.size,i.bytes))=some (some (.int .u8 0),1,1):=by kernel_rfl
def Lies (T:TypeId) (n o:Nat):Prop:=liesAt Tryz.prog Tryz.prog.depth T (n / Tryz.prog.cellsOf T) o 116 1=true∧o+1<n
set_option maxRecDepth 100000 in
set_option maxHeartbeats 1000000 in
theorem cc_any (b o:Nat) (T:TypeId) (vs:List Value) (p:Value) (w:World) (hB:Blk w b T vs) (h0:vs[o]?=some p) (hp:p=.pointer none∨p=.pointer (some ⟨b,o,none⟩)) (hl:Lies T vs.length o) :
  Calls Tryz.prog 108 #[.pointer (some ⟨b,o,none⟩)] w fun e w'=>e=.returned (.tuple #[])∧Blk w' b T (vs.set o (.pointer (some ⟨b,o,none⟩)))∧By (fun k=>k=b) w w':=by
 obtain⟨j,hj,hjs⟩:=Option.map_eq_some_iff.1 infoBld
 have hsh:=hB.shape
 have hc:=hB.cell o
 rw [h0] at hc
 have hf:=hB.frozen o
 rcases hp with rfl | rfl
 ·have ha:∀ w',Blk w' b T vs→Calls Tryz.prog 108 #[.pointer (some ⟨b,o,none⟩)] w fun e w'=>e=.returned (.tuple #[])∧w.setCell ⟨b,o,none⟩ (.pointer (some ⟨b,o,none⟩))=w':=by
   intro _ _
   clear hB h0
   go_enter Tryz.func108,Tryz.ntmps108
   go_wp2
   rw [Lib.run_to_unsafe (e:=T) (cells:=vs.length) w ⟨b,o,none⟩ Tryz.underlying113 Tryz.underlying199 hj (by rw [hjs];decide) hsh (by have:=hl.2;simp only;omega)]
   simp only [Result.andThen]
   rw [Oper.upon_value]
   go_wp2
   rw [run_callFunc_extern Tryz.func125 (by kernel_rfl) (by kernel_rfl) (by kernel_rfl) (e:=Extern.AbiNoEscape.same) (by kernel_rfl)]
   rw [Lib.run_noEscape]
   simp only [Result.andThen]
   rw [Oper.upon_value]
   go_wp2
   rw [Lib.run_from_unsafe (e:=T) (cells:=vs.length) w ⟨b,o,none⟩ Tryz.underlying199 Tryz.underlying113 hj hsh hl.1]
   simp only [Result.andThen]
   rw [Oper.upon_value]
   go_wp2
   go_end0
   exact⟨rfl,rfl⟩
  refine (ha w hB).mono ?_
  rintro e w' ⟨rfl,rfl⟩
  exact⟨rfl,hB.set o _,By.of_set w _ _⟩
 ·have hset:vs.set o (.pointer (some ⟨b,o,none⟩))=vs:=by
   obtain⟨hlt,he⟩:=List.getElem?_eq_some_iff.1 h0
   rw [← he,List.set_getElem_self]
  rw [hset]
  go_enter Tryz.func108,Tryz.ntmps108
  go_wp2
  rw [Lib.run_neq_ptr_same w _ Tryz.underlying113 hj]
  go_wp2
  go_end0
  exact⟨rfl,hB,By.refl _ _⟩
theorem byteCells_append (a b:List UInt8):byteCells (a ++ b)=byteCells a ++ byteCells b:=by unfold byteCells;rw [List.map_append]
theorem strCells_eq (s:ByteArray):strCells s=byteCells s.data.toList:=rfl
structure Bu (w:World) (b o:Nat) (T:TypeId) (vs:List Value) (base:Nat) (p v:Value) (l:List UInt8):Prop where
 blk:Blk w b T vs
 hp:vs[o]?=some p
 hv:vs[o+1]?=some v
 self:p=.pointer none∨p=.pointer (some ⟨b,o,none⟩)
 own:w.ownsRowF base 5 1 v l.length (byteCells l)
 lies:Lies T vs.length o
 ne:T≠5
set_option maxRecDepth 100000 in
set_option maxHeartbeats 2000000 in
theorem ws_any (b o:Nat) (T:TypeId) (vs:List Value) (base:Nat) (p v:Value) (l:List UInt8) (s:ByteArray) (w:World) (h:Bu w b o T vs base p v l) (hlen:l.length+s.size≤140737488355328) (hb:base≤w.heap.size) :
  Calls Tryz.prog 78 #[.pointer (some ⟨b,o,none⟩),.string s] w fun e w'=>∃ v',e=.returned (.tuple #[.int .i64 s.size,.nilIface]) ∧
   Bu w' b o T ((vs.set o (.pointer (some ⟨b,o,none⟩))).set (o+1) v') base (.pointer (some ⟨b,o,none⟩)) v' (l ++ s.data.toList)∧By (fun k=>k=b∨v.ownBlock=some k) w w':=by
 have hCC:Hid (Calls Tryz.prog 108 #[.pointer (some ⟨b,o,none⟩)] w fun e w'=>e=.returned (.tuple #[])∧Blk w' b T (vs.set o (.pointer (some ⟨b,o,none⟩)))∧By (fun k=>k=b) w w'):=cc_any b o T vs p w h.blk h.hp h.self h.lies
 obtain⟨i0,hi,hz0,hz1,hz2⟩:=info_parts infoByte
 obtain⟨ao,cap,rfl⟩:=ownF_shape h.own
 have hnb:(Value.slice ao l.length cap).ownBlock≠some b:=h.blk.rowF h.own h.ne
 have h:=Lib.hid h
 have key:∀ w1,Blk w1 b T (vs.set o (.pointer (some ⟨b,o,none⟩)))→By (fun k=>k=b) w w1→w1.ownsRowF base 5 1 (.slice ao l.length cap) l.length (byteCells l)∧w1.cell? ⟨b,o+1,none⟩=some (.slice ao l.length cap):=fun w1 hB1 hy1=>
  ⟨World.ownsRowF.kept (row:=some b) h.out.own ⟨hy1.1,hy1.2.1,hy1.2.2.1,hy1.size,fun k hk hn=>hy1.block hk (fun e=>hn (by rw [e]))⟩ (.inr hnb),by rw [hB1.cell,List.getElem?_set_ne (by omega)];exact h.out.hv⟩
 have key:=Lib.hid key
 have hol:o+1<vs.length:=h.out.lies.2
 go_enter Tryz.func78,Tryz.ntmps78
 go_wp2_with (first
  | (go_at_call 108;(with_reducible refine hCC.out.mono ?_);rintro e w1 ⟨rfl,hB1,hy1⟩;obtain⟨hown,c1⟩:=key.out _ hB1 hy1)
  | (at_builtin;refine Lib.wpList_append_own_stringF _ rfl _ _ 114 9 rfl base 5 i0 (by kernel_rfl) (by kernel_rfl) hi hz0 hz1 hz2 _ _ _ rfl hown s rfl ?_ ?_ ?_ ?_;(· unfold maxLen;omega);(· omega);(· have:=hy1.size;omega);intro v' w2 hown' hgrow hni;have hB2:=hB1.grown hgrow hnb;have d1:=hB2.cell (o+1);(rw [List.getElem?_set_ne (by omega)] at d1);have f1:=hB2.frozen (o+1);(rw [h.out.hv] at d1);obtain⟨ao2,cap2,rfl⟩:=ownF_shape hown'))
 go_ret2
 have hnb2:=hB2.rowF hown' h.out.ne
 refine⟨_,rfl,⟨hB2.set (o+1) _,?_,?_,.inr rfl,?_,?_,h.out.ne⟩,?_⟩
 ·rw [List.getElem?_set_ne (by omega),List.getElem?_set_self (by omega)]
 ·rw [List.getElem?_set_self (by rw [List.length_set];omega)]
 ·have:=World.ownsRowF.kept hown' (grown_setCell w2 ⟨b,o+1,none⟩ (.slice ao2 (l.length+s.size) cap2)) (.inr hnb2)
  rw [byteCells_append,← strCells_eq,List.length_append,ba_len]
  exact this
 ·rw [List.length_set,List.length_set];exact h.out.lies
 ·refine By.trans (By.mono hy1 (fun k _ hk=>.inl hk)) (S':=fun k=>k=b∨(Value.slice ao l.length cap).ownBlock=some k) (By.trans (By.of_grown (S:=fun k=>k=b∨(Value.slice ao l.length cap).ownBlock=some k) hgrow (ownF_isRow hown) (fun k hk=>.inr hk)) (By.of_set w2 ⟨b,o+1,none⟩ _) (fun k _ hk=>.inl hk)) (fun k _ hk=>hk)
theorem own_froze {w:World} {base n g cap:Nat} {e:TypeId} {xs:List Value} (h:w.ownsRowF base e 1 (.slice (some ⟨g,0,none⟩) n cap) n xs):(w.freeze ⟨g,0,none⟩ n).ownsRowF base e 1 (.slice (some ⟨g,0,none⟩) n cap) n xs:=by
 unfold World.freeze
 split
 ·exact h
 ·rename_i hn0
  refine⟨h.1,?_⟩
  rcases h.2 with ⟨hv,_⟩ | ⟨g',cap',cur,fz,hv,hbg,hg,hfz,rest⟩
  ·cases hv
  ·injection hv with ha _ hcap
   injection ha with ha
   injection ha with hgg _ _
   subst hgg
   subst hcap
   obtain⟨lo,hi⟩:=fz
   refine .inr ⟨g,cap,cur,(if lo == hi then (0,0+n) else (min lo 0,max hi (0+n))),rfl,hbg,?_,?_,rest⟩
   ·simp only [Array.getElem?_modify]
    rw [if_pos trivial,hg]
    rfl
   ·simp only at hfz
    split
    ·simp
    ·simp;omega
theorem by_froze (w:World) (g n cap k:Nat):By (fun k=>(Value.slice (some ⟨g,0,none⟩) n cap).ownBlock=some k) w (w.drew.freeze ⟨g,0,none⟩ k):=by
 unfold World.freeze
 split
 ·exact By.of_gr (Gr.refl w).drew
 ·have key:∀ j,(g≠j∨¬ IsRow w j)→((w.drew.heap.modify g fun | .cells c elem (lo,hi)=>.cells c elem (if lo == hi then (0,0+k) else (min lo 0,max hi (0+k))) | o=>o)[j]?)=w.heap[j]?:=fun j hj=>by
   simp only [Array.getElem?_modify]
   by_cases hg:g=j
   ·rw [if_pos hg]
    rcases hj with hj | hj
    ·exact absurd hg hj
    ·show Option.map _ (w.heap[j]?)=w.heap[j]?
     cases ho:w.heap[j]? with
     | none=>rfl
     | some o=>
      cases o with
      | cells c t f=>exact absurd ⟨c,t,f,ho⟩ hj
      | _=>rfl
   ·rw [if_neg hg]
    rfl
  exact⟨rfl,rfl,rfl,by simp,fun j hj hn=>key j (.inl (fun e=>hn (by simp [Value.ownBlock,e]))),fun j hj hn=>key j (.inr hn)⟩
set_option maxRecDepth 100000 in
set_option maxHeartbeats 1000000 in
theorem str_any (b o:Nat) (T:TypeId) (vs:List Value) (base:Nat) (p v:Value) (l:List UInt8) (w:World) (h:Bu w b o T vs base p v l) (h0:l≠[]) :
  Calls Tryz.prog 50 #[.pointer (some ⟨b,o,none⟩)] w fun e w'=>e=.returned (.string ⟨l.toArray⟩)∧Bu w' b o T vs base p v l∧By (fun k=>v.ownBlock=some k) w w':=by
 have hl0:l.length≠0:=by simpa using h0
 obtain⟨g,cap,cur,fz,rfl,hbg,hg,hfz,hnc,hcm,hcs,htake⟩:∃ g cap cur fz,v=.slice (some ⟨g,0,none⟩) l.length cap∧base≤g∧w.heap[g]?=some (.cells cur 5 fz)∧fz.2≤l.length * 1∧l.length≤cap∧cap≤maxLen∧cur.size=cap * 1∧cur.toList.take (l.length * 1)=byteCells l:=by
  rcases h.own.2 with ⟨_,hz⟩ | ⟨g,cap,cur,fz,hv,r⟩
  ·exact absurd hz hl0
  ·exact⟨g,cap,cur,fz,hv,r⟩
 have c1:w.drew.cell? ⟨b,o+1,none⟩=some (.slice (some ⟨g,0,none⟩) l.length cap):=(h.blk.cell (o+1)).trans h.hv
 have hSD:(Builtin.unsafeSliceData_ #[114] 156 #[.slice (some ⟨g,0,none⟩) l.length cap]).run Tryz.prog w.drew=.ok (.pointer (some ⟨g,0,none⟩)) w.drew:=
  Lib.run_unsafeSliceData_row _ _ _ _ _ _ (by omega)
 have hUS:(Builtin.unsafeString_ #[156,3] 9 #[.pointer (some ⟨g,0,none⟩),.int .i64 l.length]).run Tryz.prog w.drew=.ok (.string ⟨l.toArray⟩) (w.drew.freeze ⟨g,0,none⟩ l.length):=by
  refine Lib.run_unsafeString_row w.drew 156 3 9 5 (by kernel_rfl) (by kernel_rfl) g cur.size (by have hg':w.drew.heap[g]?=some (.cells cur 5 fz):=hg;simp [World.shape?,hg']) l h0 (by omega) (by unfold maxLen at hcm;omega) ?_
  intro j x hx
  have:=h.own.cells (g:=g) rfl j (.int .u8 x.toNat) (by simp [Lib.byteCells,hx])
  exact this
 have hnb:=h.blk.rowF h.own h.ne
 have hfo:=own_froze (w:=w.drew) h.own
 have hby:=by_froze w g l.length cap l.length
 have h:=Lib.hid h
 go_enter Tryz.func50,Tryz.ntmps50
 go_wp2
 go_region
 all_goals go_wp2
 all_goals (go_ret;exact⟨rfl,⟨hby.blk h.out.blk (fun e=>hnb e),h.out.hp,h.out.hv,h.out.self,hfo,h.out.lies,h.out.ne⟩,hby⟩)
def Lb (w:World) (B:Nat) (l:List UInt8):Prop:=∃ p v,Bu w B 0 116 [p,v] (B+1) p v l∧(l=[]→v=.slice none 0 0)
def Wb (w:World) (B k:Nat):Prop:=k=B∨(B<k∧∃ c f,w.heap[k]?=some (.cells c 5 f))
theorem liesB:Lies 116 2 0:=⟨by kernel_rfl,by decide⟩
theorem Lb.new (w:World):Lb (w.alloc (.cells #[.pointer none,.slice none 0 0] 116)) w.heap.size []:=
 ⟨.pointer none,.slice none 0 0,⟨Blk.new w [.pointer none,.slice none 0 0] _,rfl,rfl,.inl rfl,World.ownsRowF_nil _ _ _ _,liesB,by decide⟩,fun _=>rfl⟩
theorem Lb.lt {w:World} {B:Nat} {l:List UInt8} (h:Lb w B l):B<w.heap.size:=by
 obtain⟨p,v,h,_⟩:=h
 exact h.blk.lt
theorem Lb.gr {w w':World} {B:Nat} {l:List UInt8} (h:Lb w B l) (hg:Gr w w'):Lb w' B l:=by
 obtain⟨p,v,h,h2⟩:=h
 exact⟨p,v,⟨h.blk.gr hg,h.hp,h.hv,h.self,World.ownsRowF.kept h.own hg.by0 (Classical.em _),h.lies,h.ne⟩,h2⟩
theorem ownF_kind {w:World} {base n size:Nat} {e:TypeId} {v:Value} {xs:List Value} (h:w.ownsRowF base e size v n xs):∀ k,v.ownBlock=some k→∃ c f,w.heap[k]?=some (.cells c e f):=fun k hk=>by
 rcases h.2 with ⟨rfl,rfl⟩ | ⟨g,cap,cur,fz,rfl,_,hg,_⟩
 ·simp [Value.ownBlock] at hk
 ·have:g=k:=by simpa [Value.ownBlock] using hk
  subst this
  exact⟨_,_,hg⟩
theorem Lb.read (B:Nat) (l:List UInt8) (w:World) (h:Lb w B l) :
  Calls Tryz.prog 50 #[.pointer (some ⟨B,0,none⟩)] w fun e w'=>e=.returned (.string ⟨l.toArray⟩)∧By (Wb w B) w w':=by
 obtain⟨p,v,h,h2⟩:=h
 by_cases hl:l=[]
 ·have hv:=h2 hl
  subst hl
  subst hv
  have hUS:∀ w,(Builtin.unsafeString_ #[156,3] 9 #[.pointer none,.int .i64 0]).run Tryz.prog w=.ok (.string .empty) w:=fun w=>Lib.run_unsafeString_none w _ _ _ none
  have hSD:∀ w,(Builtin.unsafeSliceData_ #[114] 156 #[.slice none 0 0]).run Tryz.prog w=.ok (.pointer none) w:=fun w=>rfl
  have c1:=h.blk.cell 1
  simp at c1
  go_enter Tryz.func50,Tryz.ntmps50
  go_wp2
  go_region
  all_goals go_wp2
  all_goals (go_ret;exact⟨rfl,By.of_gr (Gr.refl w).drew⟩)
 ·have hk:=ownF_kind h.own
  have hge:=ownF_ge h.own
  refine (str_any B 0 _ _ (B+1) p v l w h hl).mono ?_
  rintro e w' ⟨rfl,_,hy⟩
  exact⟨rfl,hy.mono (fun k _ hk2=>.inr ⟨by have:=hge k hk2;omega,hk k hk2⟩)⟩
theorem Wb.blk {w w':World} {B b:Nat} {T:TypeId} {vs:List Value} (hy:By (Wb w B) w w') (h:Blk w b T vs) (hb:b≠B) (hT:T≠5):Blk w' b T vs:=
 hy.blk h (fun hw=>by
  rcases hw with hw | ⟨_,c,f,hw⟩
  ·exact hb hw
  ·unfold Blk at h
   rw [h] at hw
   injection hw with hw
   injection hw with h1 h2 h3
   exact hT h2)
theorem Wb.gr {W w w':World} {B:Nat} (hy:By (Wb w B) w w') (hg:Gr W w) (hB:W.heap.size≤B):Gr W w':=
 ((By.of_gr (S:=fun k=>B≤k) hg).trans hy (fun k _ hk=>by rcases hk with hk | ⟨hk,_⟩ <;> omega)).gr (fun k hk=>by omega)
theorem Wb.same {w w':World} {B b o:Nat} (hy:By (Wb w B) w w') (hb:b<B) (hbl:b<w.heap.size):w'.cell? ⟨b,o,none⟩=w.cell? ⟨b,o,none⟩:=
 World.cell?_of_block (a:=⟨b,o,none⟩) (hy.block (k:=b) hbl (fun hk=>by
  have hk:b=B∨(B<b∧∃ c f,w.heap[b]?=some (.cells c 5 f)):=hk
  rcases hk with hk | ⟨hk,_⟩ <;> omega))
theorem Wb.cel {w w':World} {B g:Nat} {vs:List Value} (hy:By (Wb w B) w w') (hb:g<B) (h:Cel w g vs):Cel w' g vs:=by
 have hk:=hy.block (k:=g) h.1 (fun hk=>by
  have hk:g=B∨(B<g∧∃ c f,w.heap[g]?=some (.cells c 5 f)):=hk
  rcases hk with hk | ⟨hk,_⟩ <;> omega)
 exact⟨Nat.lt_of_lt_of_le h.1 hy.size,fun j v hv=>⟨by rw [World.cell?_of_block (a:=⟨g,j,none⟩) hk];exact (h.2 j v hv).1,by rw [World.frozen?_of_block (a:=⟨g,j,none⟩) hk];exact (h.2 j v hv).2⟩⟩
end Go.Proofs.YtnginfangeikpaaGreatDoor

namespace Go.Proofs.YtnginfangeikpaaGreatDoor
open Go.RowKit Go.Lib
set_option linter.unusedSimpArgs false
set_option linter.unusedVariables false
def Pow (w:World):Prop:=Lib.TabIs Tryz.prog w "internal/strconv.uint64pow10" .u64 Lib.pow10Tab
theorem pvar_gr {W w:World} (hg:Gr W w) {n:String} {cs:Array Value} (h:W.var? Tryz.prog n=some cs):w.var? Tryz.prog n=some cs:=by
 unfold World.var? at *
 cases hn:Tryz.prog.globalNamed n with
 | none=>rw [hn] at h;cases h
 | some g=>
  rw [hn] at h
  simp only [Option.bind_some] at h ⊢
  split at h
  ·rename_i c t fr hb
   rw [Below.block hg g (lt_of_block hb),hb]
   exact h
  ·cases h
theorem Pow.gr {W w:World} (hg:Gr W w) (h:Pow W):Pow w:=pvar_gr hg h
theorem gr_grow {w:World} (os:Array Obj):Gr w (Go.Sort.grow w os):=
 ⟨rfl,rfl,rfl,by show w.heap.size≤(w.heap ++ os).size;simp,fun b hb=>by show (w.heap ++ os)[b]?=w.heap[b]?;rw [Array.getElem?_append_left hb]⟩
theorem fint_any (n:Int) (w:World) (hT:Pow w) (h0:-9223372036854775808≤n) (h1:n≤9223372036854775807) :
  Calls Tryz.prog 109 #[.int .i64 n,.int .i64 10] w fun e w'=>e=.returned (.string ⟨(Lib.itoa n).toArray⟩)∧Gr w w':=
 (Tryz.strconv_FormatInt_10 n h0 h1 w hT).mono fun e w' ⟨he,k,os,hw⟩=>⟨he,by rw [hw];exact ((Gr.refl w).drewN k).trans (gr_grow os)⟩
theorem itoa_any (n:Int) (w:World) (hT:Pow w) (h0:-9223372036854775808≤n) (h1:n≤9223372036854775807) :
  Calls Tryz.prog 81 #[.int .i64 n] w fun e w'=>e=.returned (.string ⟨(Lib.itoa n).toArray⟩)∧Gr w w':=
 (Tryz.strconv_Itoa n h0 h1 w hT).mono fun e w' ⟨he,k,os,hw⟩=>⟨he,by rw [hw];exact ((Gr.refl w).drewN k).trans (gr_grow os)⟩
end Go.Proofs.YtnginfangeikpaaGreatDoor

namespace Go.Proofs.YtnginfangeikpaaGreatDoor
open Go.RowKit Go.Lib
set_option linter.unusedSimpArgs false
set_option linter.unusedVariables false
theorem ret_str {a b:ByteArray} (h:a=b):Ending.returned (.string a)=.returned (.string b):=by rw [h]
set_option maxRecDepth 100000 in
set_option maxHeartbeats 2000000 in
theorem repeat_0 (w:World):Calls Tryz.prog 110 #[.string ⟨#[48]⟩,.int .i64 0] w fun e w'=>e=.returned (.string ⟨#[]⟩)∧Gr w w':=by
 go_enter Tryz.func110,Tryz.ntmps110
 go_wp2
 go_ret
 exact⟨rfl,(by repeat (first | with_reducible exact Gr.refl _ | with_reducible assumption | refine Gr.setCell ?_ (by first | omega | (simp;done) | (simp;omega)) _ | refine Gr.alloc ?_ _ | refine Gr.drew ?_ | refine Gr.drewN ?_ _ | refine Gr.trans ?_ (by with_reducible assumption)))⟩
set_option maxRecDepth 100000 in
set_option maxHeartbeats 2000000 in
theorem repeat_1 (w:World):Calls Tryz.prog 110 #[.string ⟨#[48]⟩,.int .i64 1] w fun e w'=>e=.returned (.string ⟨#[48]⟩)∧Gr w w':=by
 go_enter Tryz.func110,Tryz.ntmps110
 go_wp2
 go_ret
 exact⟨rfl,(by repeat (first | with_reducible exact Gr.refl _ | with_reducible assumption | refine Gr.setCell ?_ (by first | omega | (simp;done) | (simp;omega)) _ | refine Gr.alloc ?_ _ | refine Gr.drew ?_ | refine Gr.drewN ?_ _ | refine Gr.trans ?_ (by with_reducible assumption)))⟩
set_option maxHeartbeats 1000000 in
theorem hp_any (t:ByteArray) (b:Bool) (w:World) (h1:1≤t.size) (h2:t.size≤1000) (h3:((t.extract 0 1).toList == [48])=b) :
  Calls Tryz.prog 128 #[.string t,.string ⟨#[48]⟩] w fun e w'=>e=.returned (.bool b)∧w=w':=by
 have q:decide ((1:Int)≤t.size)=true:=decide_eq_true (by omega)
 have q2:decide (1≤t.size)=true:=decide_eq_true (by omega)
 go_enter Tryz.func128,Tryz.ntmps128
 go_wp2
 go_ret
 exact⟨by rw [← h3];rfl,rfl⟩
set_option maxRecDepth 100000 in
set_option maxHeartbeats 4000000 in
theorem repeat_2 (w:World):Calls Tryz.prog 110 #[.string ⟨#[48]⟩,.int .i64 2] w fun e w'=>e=.returned (.string ⟨#[48,48]⟩)∧Gr w w':=by
 have HM:Hid (∀ w,Calls Tryz.prog 127 #[.int .u64 1,.int .u64 2] w fun e w'=>e=.returned (.tuple #[.int .u64 0,.int .u64 2])∧w=w'):=fun w=>(Tryz.bits_Mul 1 2 (by decide) (by decide) w).mono fun e w' ⟨h1,h2⟩=>⟨h1,h2.symm⟩
 have hz:((⟨#[48]⟩:ByteArray)[0]'(by decide)).toNat=48:=rfl
 go_enter Tryz.func110,Tryz.ntmps110
 go_wp2_with (first
  | (go_at_call 127;(with_reducible refine (HM.out _).mono ?_);rintro e w1 ⟨rfl,rfl⟩)
  | (go_at_call 128;(refine (hp_any _ false _ ?_ ?_ ?_).mono ?_);(· decide +kernel);(· decide +kernel);(· decide +kernel);rintro e w1 ⟨rfl,rfl⟩)
  | (go_at_call 128;(refine (hp_any _ true _ ?_ ?_ ?_).mono ?_);(· decide +kernel);(· decide +kernel);(· decide +kernel);rintro e w1 ⟨rfl,rfl⟩))
 go_ret
 exact⟨ret_str (by decide +kernel),(by repeat (first | with_reducible exact Gr.refl _ | with_reducible assumption | refine Gr.setCell ?_ (by first | omega | (simp;done) | (simp;omega)) _ | refine Gr.alloc ?_ _ | refine Gr.drew ?_ | refine Gr.drewN ?_ _ | refine Gr.trans ?_ (by with_reducible assumption)))⟩
def padL (wd:Nat) (n:Int):List UInt8:=List.replicate (wd - (itoa n).length) 48 ++ itoa n
theorem itoa_len:∀ n:Fin 1000,1≤(itoa n).length∧(n.1<100→(itoa n).length≤2)∧(itoa n).length≤3:=by decide +kernel
end Go.Proofs.YtnginfangeikpaaGreatDoor
