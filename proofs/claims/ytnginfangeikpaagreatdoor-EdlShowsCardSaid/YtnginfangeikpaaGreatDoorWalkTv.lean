/-
  Contract of total of package timeline, and of slices.Grow and slices.Concat for tracks.
  Conditions: the clips lie in memory, their lengths are small.
-/
import Derived.Test.YtnginfangeikpaaGreatDoorWalkTm
import Derived.Test.YtnginfangeikpaaGreatDoorWalkEg
import Derived.Test.YtnginfangeikpaaGreatDoorClip
namespace Go.Proofs.YtnginfangeikpaaGreatDoor
open Go.RowKit Go.Lib
set_option linter.unusedSimpArgs false
set_option linter.unusedVariables false
set_option maxRecDepth 20000 in
set_option maxHeartbeats 4000000 in
theorem total_core (k:Nat) (hk22:22=k) (cs:List CM) (v:Value) (w:World) (h:TrR w v cs) (hn:cs.length≤1000000) (hl:∀ c∈cs,0≤c.c.len∧c.c.len≤2147483647) :
  Calls Tryz.prog 35 #[v] w fun e w'=>e=.returned (.int .i64 (totM cs))∧Gr w w':=by
 have aE:∀ w,(isAgg 61).run Tryz.prog w=.ok true w:=Tryz.isAgg61
 have zE:∀ w,(Go.sizeOf 61).run Tryz.prog w=.ok k w:=fun w=>by rw [← hk22];exact Tryz.sizeOf61 w
 replace hk22:=Lib.hid hk22
 obtain⟨a,cap,rfl,ha⟩:=h.shape
 have hch:=h.ch
 clear h
 replace ha:=Lib.hid ha
 replace hch:=Lib.hid hch
 replace hl:=Lib.hid hl
 go_enter Tryz.func35,Tryz.ntmps35
 go_wp2
 go_loopw [3,8] (fun n i wr=>∃ (j:Nat) (t:Int),j≤cs.length∧n=.int .i64 t∧i=.int .i64 j∧0≤t∧t≤2147483647 * j∧Hid (totM (cs.take j)=t)∧Gr w wr) (fun _ i _=>cs.length - (RowKit.intOf i).toNat)
 case atStart=>exact⟨0,0,Nat.zero_le _,rfl,rfl,by omega,by omega,Lib.hid rfl,Gr.refl _⟩
 case round=>
  obtain⟨j,t,hj,rfl,rfl,ht0,ht1,hno,hg⟩:=hrel
  by_cases c1:j<cs.length
  ·have q1:decide ((j:Int)<(cs.length:Int))=true:=decide_eq_true (by omega)
   rcases ha.out with ha2 | ⟨b,o,rfl,hb,hc⟩
   ·omega
   have hx1:b<wr.heap.size:=Nat.lt_of_lt_of_le hb hg.size
   have hcell:∀ (x:Nat) (u:Value),cs[j].cells[x]?=some u→wr.cell? ⟨b,o+j * 22+x,none⟩=some u:=fun x u hu=>(hg.cells.1 b _ hb).trans (hc j c1 x u hu)
   have hone:=(hch.out _ (List.getElem_mem c1)).one
   have hlj:=hl.out _ (List.getElem_mem c1)
   have htk:totM (cs.take (j+1))=t+cs[j].c.len:=by rw [totM_take c1,hno.out]
   generalize cs[j]=m at hcell hone hlj htk
   obtain⟨l,hml⟩:∃ l,m.cells=l:=⟨_,rfl⟩
   have hlk:l.length=k:=by rw [← hml,← hk22.out];rfl
   have hl0:l[0]?=some (.int .i64 m.c.len):=by rw [← hml];rfl
   rw [hml] at hcell hone
   obtain⟨ln,hln⟩:∃ ln,m.c.len=ln:=⟨_,rfl⟩
   rw [hln] at hl0 hlj htk
   have la:Sem.run Tryz.prog (loadCellsFrom ⟨b,o+j * k,none⟩ 0 k #[]) wr=.ok l.toArray wr:=by rw [show j * k=j * 22 by rw [← hk22.out]];exact ld_row hlk hcell
   have st:Sem.run Tryz.prog (storeCells ⟨wr.heap.size,0,none⟩ l 0) (wr.alloc (.cells #[.int .i64 0,.int .i64 0,.int .i64 0,.string ⟨#[]⟩,.int .i64 0,.int .i64 0,.int .i64 0,.int .i64 0,.bool false,.int .i64 0,.string ⟨#[]⟩,.int .i64 0,.int .i64 0,.int .i64 0,.int .i64 0,.bool false,.int .i64 0,.int .i64 0,.int .i64 0,.string ⟨#[]⟩,.int .i64 0,.slice none 0 0] 61))=.ok () (wr.alloc (.cells l.toArray 61)):=st_new wr _ _ l (by rw [hlk,← hk22.out];exact infoClip) (by rw [hlk,← hk22.out];rfl) hone
   have hbx:Cel (wr.alloc (.cells l.toArray 61)) wr.heap.size l:=Cel.new wr l.toArray 61
   have y0:=hbx.lt
   have y1:=(hbx.2 0 _ hl0).1
   have hno2:=Lib.hid htk
   obtain⟨n0,n1⟩:=hlj
   clear htk hcell hc hml hln hno hbx
   go_wp2
   exact⟨⟨j+1,t+ln,by omega,by go_num,by go_num,by omega,by omega,hno2,hg.alloc _⟩,by simp [RowKit.intOf];omega⟩
  ·have q1:decide ((j:Int)<(cs.length:Int))=false:=decide_eq_false (by omega)
   have hV:Hid (totM cs=t):=by
    have:=hno.out
    rw [List.take_of_length_le (by omega)] at this
    exact Lib.hid this
   go_wp2
   go_ret
   exact⟨by rw [hV.out];rfl,hg⟩
theorem total_any (cs:List CM) (v:Value) (w:World) (h:TrR w v cs) (hn:cs.length≤1000000) (hl:∀ c∈cs,VC c.c) :
  Calls Tryz.prog 35 #[v] w fun e w'=>e=.returned (.int .i64 (tot (cs.map CM.c)))∧Gr w w':=by
 have:=total_core 22 rfl cs v w h hn (fun c hc=>by have:=(hl c hc).len;omega)
 rw [totM_eq] at this
 exact this
theorem run_append_make {P:Program} (w:World) (t u ty e:TypeId) (i:TypeInfo) (z:Value) (ht:P.underlying t=some (.slice e)) (hu:P.underlying u=some (.int .i64)) (hi:P.info? e=some i) (hz:i.zero=some z)
  (m:Nat) (h0:0<m) (hs:0<i.size) (h1:m≤1000000) (h2:i.bytes≤65536) :
  (Builtin.append_ #[t,u] ty #[.slice none 0 0,.int .i64 m]).run P w =
   .ok (.slice (some ⟨w.heap.size,0,none⟩) m (grownCap w m 0 e))
    (w.drew.alloc (.cells (Builtin.zeroCells z.cells m ++ Builtin.zeroCells z.cells (grownCap w m 0 e - m)) e)):=by
 have hb:m * i.bytes≤1000000 * 65536:=Nat.mul_le_mul h1 h2
 have hn:m≠0:=by omega
 have hw:IntKind.i64.wrap (m:Int)=(m:Int):=by rw [IntKind.wrap_i64];omega
 have h63':¬ (9223372036854775807<(m:Int)):=by omega
 have hneg:¬ ((m:Int)<0):=by omega
 have h48':¬ (281474976710656<Builtin.nextslicecap m 0 * i.bytes):=by rw [nextslicecap_zero h0];omega
 have h48'':¬ (281474976710656<(m:Int) * (i.bytes:Int)):=by
  have:((m * i.bytes:Nat):Int)=(m:Int) * (i.bytes:Int):=by simp
  omega
 have hms:¬ (m * i.size=0):=by
  intro h
  rcases Nat.mul_eq_zero.1 h with h | h <;> omega
 have hs0:¬ (i.size=0):=by omega
 simp [Builtin.append_,run_underlying ht,run_underlying hu,sizeOf,typeInfo,zeroValue,asInt,asIntOf,hi,hz,Builtin.lenOf,Builtin.firstCells,hn,hw,hneg,h63',h48',h48'',hms,hs0,Question.forced,newRow,grownCap]
theorem wpList_append_make {P:Program} {w:World} {ops:Array Oper} {rest:List Oper} {o:Oper} {a:Act} {Q:Exit→Act→World→Prop} (hgd:o.guard=none) (s x:Operand) (t u:TypeId)
  (ho:o.op=.call { callee:=.builtin .append,args:=#[s,x],argTypes:=#[t,u] })
  (e:TypeId) (i:TypeInfo) (z:Value) (ht:P.underlying t=some (.slice e)) (hu:P.underlying u=some (.int .i64)) (hi:P.info? e=some i) (hz:i.zero=some z) (hzs:z.cells.size=i.size) (hs0:0<i.size) (h2:i.bytes≤65536)
  (m:Nat) (hs:a.eval s=.slice none 0 0) (hx:a.eval x=.int .i64 m) (h0:0<m) (h1:m≤1000000)
  (h:∀ cap w',m≤cap→Gr w w'→w'.ownsRow w.heap.size e i.size (.slice (some ⟨w.heap.size,0,none⟩) 0 cap) 0 []→wpList P ops Q rest (a.put o.dst (.slice (some ⟨w.heap.size,0,none⟩) m cap)) w'):wpList P ops Q (o :: rest) a w:=by
 refine wpList_plain hgd fun K hK=>?_
 have hrun:=run_append_make (P:=P) w t u o.type e i z ht hu hi hz m h0 hs0 h1 h2
 have hge:=grownCap_ge w m 0 e
 have hcm:grownCap w m 0 e≤maxLen:=grownCap_le_maxLen w m 0 e (by simp only [maxLen];omega)
 unfold Oper.wp
 simp [execOp,ho,resolve,invoke,builtin,hs,hx,hrun,Result.andThen]
 refine hK _ _ (h _ _ hge ((Gr.refl w).drew.alloc _) ⟨by simp,.inr ⟨w.heap.size,_,_,rfl,Nat.le_refl _,heap_alloc_new w.drew _,Nat.zero_le _,hcm,?_,?_⟩⟩)
 ·simp only [Array.size_append,size_zeroCells,hzs,← Nat.add_mul]
  congr 1
  omega
 ·simp
set_option maxHeartbeats 2000000 in
theorem grow_any (m:Nat) (w:World) (h1:m≤1000000) :
  Calls Tryz.prog 62 #[.slice none 0 0,.int .i64 m] w fun e w'=>∃ v',e=.returned v'∧Gr w w'∧w'.ownsRow w.heap.size 61 22 v' 0 []:=by
 obtain⟨ic,hic,hic0,hic1,hic2⟩:=info_parts infoClip3
 have q0:decide ((m:Int)<0)=false:=decide_eq_false (by omega)
 rcases Nat.eq_zero_or_pos m with h0 | h0
 ·subst h0
  go_enter Tryz.func62,Tryz.ntmps62
  go_wp2
  go_ret
  exact⟨_,rfl,(by repeat (first | with_reducible exact Gr.refl _ | with_reducible assumption | refine Gr.setCell ?_ (by first | omega | (simp;done) | (simp;omega)) _ | refine Gr.alloc ?_ _ | refine Gr.drew ?_ | refine Gr.drewN ?_ _ | refine Gr.trans ?_ (by with_reducible assumption))),World.ownsRow_nil _ _ _ _⟩
 ·have q1:decide (0<(m:Int))=true:=decide_eq_true (by omega)
  go_enter Tryz.func62,Tryz.ntmps62
  go_wp2_with (at_builtin;go_loud (refine wpList_append_make rfl (.tmp 20) (.tmp 21) 28 3 rfl 61 ic _ (by kernel_rfl) (by kernel_rfl) hic hic0 (by rw [hic1];rfl) (by rw [hic1];omega) (by rw [hic2];omega) m rfl rfl h0 h1 ?_);intro cap w2 hcap hg2 how2)
  go_ret
  rw [hic1] at how2
  exact⟨_,rfl,hg2,how2⟩
def lensP (ps:List (Value × List CM)):Nat:=(ps.map fun p=>p.2.length).sum
theorem lensP_take {ps:List (Value × List CM)} {j:Nat} (hj:j<ps.length):lensP (ps.take (j+1))=lensP (ps.take j)+ps[j].2.length:=by
 have h:=(List.take_append_getElem hj).symm
 unfold lensP
 rw [h,List.map_append,List.sum_append]
 simp
theorem lensP_le (ps:List (Value × List CM)) (j:Nat):lensP (ps.take j)≤lensP ps:=by
 have h:lensP ps=lensP (ps.take j)+lensP (ps.drop j):=by
  unfold lensP
  rw [← List.sum_append,← List.map_append,List.take_append_drop]
 omega
theorem flat_len (ps:List (Value × List CM)):(ps.flatMap Prod.snd).length=lensP ps:=by
 unfold lensP
 rw [List.length_flatMap]
set_option maxHeartbeats 4000000 in
theorem concat_any (ps:List (Value × List CM)) (v:Value) (w:World) (hv:Rd w v ps.length 1 (ps.map Prod.fst)) (hp:∀ p∈ps,TrR w p.1 p.2) (hl:ps.length≤1000) (hn:lensP ps≤1000000) :
  Calls Tryz.prog 37 #[v] w fun e w'=>∃ v',e=.returned v'∧Gr w w'∧TrR w' v' (ps.flatMap Prod.snd):=by
 obtain⟨_,a,cap,rfl,h0⟩:=hv
 replace h0:=Lib.hid h0
 replace hp:=Lib.hid hp
 have hle:=Lib.hid fun j=>lensP_le ps j
 go_enter Tryz.func37,Tryz.ntmps37
 go_wp2
 go_loopw [3,11] (fun n i wr=>∃ j:Nat,j≤ps.length∧n=.int .i64 (lensP (ps.take j))∧i=.int .i64 j∧w=wr) (fun _ i _=>ps.length - (RowKit.intOf i).toNat)
 case atStart=>exact⟨0,Nat.zero_le _,rfl,rfl,rfl⟩
 case round=>
  obtain⟨j,hj,rfl,rfl,rfl⟩:=hrel
  by_cases c1:j<ps.length
  ·have q1:decide ((j:Int)<(ps.length:Int))=true:=decide_eq_true (by omega)
   rcases h0.out with ha2 | ⟨b,o,rfl,hb,hc⟩
   ·omega
   have hcj:=hc j ps[j].1 (by simp [c1])
   obtain⟨a2,cap2,hs2,-⟩:=(hp.out _ (List.getElem_mem c1)).shape
   rw [hs2] at hcj
   have hle1:=hle.out (j+1)
   rw [lensP_take c1] at hle1
   have htk:=Lib.hid (lensP_take c1)
   obtain⟨m,hm⟩:∃ m,ps[j].2.length=m:=⟨_,rfl⟩
   rw [hm] at hcj hle1 htk
   obtain⟨t,ht⟩:∃ t,lensP (ps.take j)=t:=⟨_,rfl⟩
   rw [ht] at hle1 htk ⊢
   clear hm hs2 ht
   have q2:decide ((t:Int)+(m:Int)<0)=false:=decide_eq_false (by omega)
   have t0:(0:Int)≤(t:Int)+(m:Int)∧(t:Int)+(m:Int)≤1000000:=by omega
   clear hp hle h0 hc
   go_upto_region 6 with fail
   have q3:decide ((t:Int)+(m:Int)<0)=false:=decide_eq_false (by omega)
   go_wp2
   exact⟨⟨j+1,by omega,by rw [htk.out];go_num,by go_num,trivial⟩,by simp [RowKit.intOf];omega⟩
  ·have q1:decide ((j:Int)<(ps.length:Int))=false:=decide_eq_false (by omega)
   have hT:lensP (ps.take j)=lensP ps:=by rw [List.take_of_length_le (by omega)]
   rw [hT]
   obtain⟨T,hT2⟩:∃ T,lensP ps=T:=⟨_,rfl⟩
   rw [hT2] at hn ⊢
   clear hT
   replace hT2:=Lib.hid hT2
   have hgrow:=grow_any T w hn
   go_upto_region 10 with (go_at_call 62;(with_reducible refine hgrow.mono ?_);rintro e w2 ⟨v2,rfl,hg2,how2⟩)
   obtain⟨p2,c2,rfl⟩:=own_shape how2
   clear q1 hgrow
   go_wp2
   obtain⟨ic,hic,hic0,hic1,hic2⟩:=info_parts infoClip3
   have how0:=Lib.hid how2
   go_loopw [6,27] (fun n i wx=>∃ x:Nat,x≤ps.length∧i=.int .i64 x∧Hid (wx.ownsRow w.heap.size 61 22 n (lensP (ps.take x)) (cflat ((ps.take x).flatMap Prod.snd)))∧Gr w wx) (fun _ i _=>ps.length - (RowKit.intOf i).toNat)
   case atStart=>exact⟨0,Nat.zero_le _,rfl,how0,hg2⟩
   case round=>
    obtain⟨x,hx,rfl,hO,hgx⟩:=hrel
    clear how2 how0 hg2
    by_cases c1:x<ps.length
    ·have q1:decide ((x:Int)<(ps.length:Int))=true:=decide_eq_true (by omega)
     rcases h0.out with ha2 | ⟨b,o,rfl,hb,hc⟩
     ·omega
     have hcj:=(hgx.cells.1 b _ hb).trans (hc x ps[x].1 (by simp [c1]))
     have hbx:b<wr.heap.size:=Nat.lt_of_lt_of_le hb hgx.size
     have hT:=(hp.out _ (List.getElem_mem c1)).gr hgx
     have hone:∀ u∈cflat ps[x].2,u.oneCell'=true:=fun u hu=>by
      unfold cflat at hu
      obtain⟨c,hc1,hc2⟩:=List.mem_flatMap.1 hu
      exact (hT.ch c hc1).one u hc2
     obtain⟨a2,cap2,hs2,-⟩:=hT.shape
     have hrd:=hT.rd
     rw [hs2] at hcj hrd
     have hle1:=hle.out (x+1)
     have htk:=lensP_take c1
     have hfl:cflat ((ps.take (x+1)).flatMap Prod.snd)=cflat ((ps.take x).flatMap Prod.snd) ++ cflat ps[x].2:=by
      rw [← cflat_append,← List.take_append_getElem c1,List.flatMap_append]
      simp
     rw [htk] at hle1
     obtain⟨m,hm⟩:∃ m,ps[x].2.length=m:=⟨_,rfl⟩
     obtain⟨l,hlq⟩:∃ l,cflat ps[x].2=l:=⟨_,rfl⟩
     rw [hm] at hcj hle1 htk hrd
     rw [hlq] at hone hrd hfl
     have hTT:=hT2.out
     obtain⟨t,ht⟩:∃ t,lensP (ps.take x)=t:=⟨_,rfl⟩
     rw [ht] at hle1 htk hO
     obtain⟨p3,c3,rfl⟩:=own_shape hO.out
     clear hm hlq hs2 hT ht hc h0 hp hle
     replace htk:=Lib.hid htk
     replace hfl:=Lib.hid hfl
     replace hTT:=Lib.hid hTT
     have hsz:=hgx.size
     have htm:t+m≤1000000:=by rw [← hTT.out] at hn;omega
     clear hle1
     go_wp2_with (at_builtin;go_loud (refine wpList_append_rd rfl (.tmp 31) (.tmp 32) 28 rfl w.heap.size 61 ic (.agg #[.int .i64 0,.int .i64 0,.int .i64 0,.string ⟨#[]⟩,.int .i64 0,.int .i64 0,.int .i64 0,.int .i64 0,.bool false,.int .i64 0,.string ⟨#[]⟩,.int .i64 0,.int .i64 0,.int .i64 0,.int .i64 0,.bool false,.int .i64 0,.int .i64 0,.int .i64 0,.string ⟨#[]⟩,.int .i64 0,.slice none 0 0]) 22 216 (by kernel_rfl) hic hic0 hic1 hic2 rfl (by decide) (.slice p3 t c3) t (cflat ((ps.take x).flatMap Prod.snd)) rfl hO.out _ m l rfl hrd hone ?_ ?_ ?_ ?_);(· unfold maxLen;omega);(· omega);(· exact hsz);intro v9 w9 hown9 hgrow9;obtain⟨p10,c10,rfl⟩:=own_shape hown9)
     have hbas:∀ k,(Value.slice p3 t c3).ownBlock=some k→w.heap.size≤k:=own_ge hO.out
     exact⟨⟨x+1,by omega,by go_num,Lib.hid (by rw [htk.out,hfl.out];exact hown9),hgx.grown hgrow9 hbas⟩,by simp [RowKit.intOf];omega⟩
    ·have q1:decide ((x:Int)<(ps.length:Int))=false:=decide_eq_false (by omega)
     have hO2:=hO.out
     rw [List.take_of_length_le (by omega)] at hO2
     obtain⟨p3,c3,rfl⟩:=own_shape hO2
     have hO2:=Lib.hid hO2
     go_wp2
     go_ret
     refine⟨_,rfl,hgx,?_,fun c hc=>?_⟩
     ·have:=Rd.own hO2.out
      rw [flat_len]
      exact this
     ·obtain⟨p,hpm,hcm⟩:=List.mem_flatMap.1 hc
      exact ((hp.out p hpm).ch c hcm).gr hgx
theorem Rd.put {w:World} {v:Value} {n size g o':Nat} {xs:List Value} {old u:Value} (h:Rd w v n size xs) (hp:w.cell? ⟨g,o',none⟩=some old) (hne:old=u∨∀ x∈xs,x≠old):Rd (w.setCell ⟨g,o',none⟩ u) v n size xs:=by
 obtain⟨hl,a,cap,rfl,h0⟩:=h
 refine⟨hl,a,cap,rfl,?_⟩
 rcases h0 with h0 | ⟨b,o,rfl,hb,hc⟩
 ·exact .inl h0
 ·refine .inr ⟨b,o,rfl,by simpa using hb,fun j u' hu=>?_⟩
  have h1:=hc j u' hu
  by_cases e:(⟨g,o',none⟩:Addr)=⟨b,o+j,none⟩
  ·rw [← e] at h1 ⊢
   rw [World.cell?_setCell_same (h:=hp)]
   rw [hp] at h1
   injection h1 with h1
   rcases hne with h2 | h2
   ·rw [← h2,h1]
   ·exact absurd h1.symm (h2 u' (List.mem_of_getElem? hu))
  ·rw [World.cell?_setCell_other (h:=e)]
   exact h1
theorem Rd.off {w:World} {v:Value} {n size:Nat} {xs:List Value} {p:Addr} (h:Rd w v n size xs) (hv:v.ownBlock≠some p.block) (u:Value):Rd (w.setCell p u) v n size xs:=by
 obtain⟨hl,a,cap,rfl,h0⟩:=h
 refine⟨hl,a,cap,rfl,?_⟩
 rcases h0 with h0 | ⟨b,o,rfl,hb,hc⟩
 ·exact .inl h0
 ·refine .inr ⟨b,o,rfl,by simpa using hb,fun j u' hu=>?_⟩
  rw [World.cell?_setCell_other (h:=fun e=>hv (by rw [e];rfl))]
  exact hc j u' hu
theorem TrR.put {w:World} {v:Value} {cs:List CM} {g o':Nat} {old u:Value} (h:TrR w v cs) (hv:v.ownBlock≠some g) (hp:w.cell? ⟨g,o',none⟩=some old) (hne:old=u∨∀ x:Int,Value.int .i64 x≠old):TrR (w.setCell ⟨g,o',none⟩ u) v cs:=
 ⟨h.rd.off hv u,fun c hc=>Rd.put (h.ch c hc) hp (hne.imp id fun h1 x hx=>by
  unfold intsV at hx
  obtain⟨y,_,rfl⟩:=List.mem_map.1 hx
  exact h1 y)⟩
theorem res_two (w w1:World) (a b:Value) (t t':TypeId) (hg1:Gr ((w.alloc (.cells #[a] t)).alloc (.cells #[b] t')) w1):Cel w1 w.heap.size [a]∧Cel w1 (w.heap.size+1) [b]:=by
 have k1:=(Cel.new w #[a] t).alloc (.cells #[b] t') |>.gr hg1
 have k2:=(Cel.new (w.alloc (.cells #[a] t)) #[b] t').gr hg1
 simp at k1 k2
 exact⟨k1,k2⟩
set_option maxRecDepth 20000 in
set_option maxHeartbeats 4000000 in
theorem join_any (v1 v2:Value) (cs ds:List CM) (w:World) (h1:TrR w v1 cs) (h2:TrR w v2 ds) (k1:VT (cs.map CM.c)) (k2:VT (ds.map CM.c)) (ht:tot (cs.map CM.c)+tot (ds.map CM.c)≤2147483647) :
  Calls Tryz.prog 16 #[v1,v2] w fun e w'=>∃ v' E,e=.returned (.tuple #[v',.int .i64 E])∧Gr w w' ∧
   ((E=0∧∃ ts,TrR w' v' ts∧ts.map CM.c=pk (cs.map CM.c ++ ds.map CM.c)∧ts.length≤64)∨(E=5∧v'=.slice none 0 0∧64<(pk (cs.map CM.c ++ ds.map CM.c)).length)):=by
 have hl1:=k1.len
 have hl2:=k2.len
 rw [List.length_map] at hl1 hl2
 have m1:∀ c∈cs,VC c.c:=fun c hc=>k1.vc _ (List.mem_map.2 ⟨c,hc,rfl⟩)
 have m2:∀ c∈ds,VC c.c:=fun c hc=>k2.vc _ (List.mem_map.2 ⟨c,hc,rfl⟩)
 have t1:0≤tot (cs.map CM.c):=tot_nonneg fun c hc=>(k1.vc c hc).vl
 have t2:0≤tot (ds.map CM.c):=tot_nonneg fun c hc=>(k2.vc c hc).vl
 have HV1:Hid (∀ w',Gr w w'→Calls Tryz.prog 34 #[v1] w' fun e w''=>e=.returned (.bool true)∧Gr w' w''):=Lib.hid fun w' hg=>by
  have:=vtrack_any cs v1 w' (h1.gr hg) (fun c hc=>(m1 c hc).ok)
  rwa [(vtB_iff _).2 k1] at this
 have HV2:Hid (∀ w',Gr w w'→Calls Tryz.prog 34 #[v2] w' fun e w''=>e=.returned (.bool true)∧Gr w' w''):=Lib.hid fun w' hg=>by
  have:=vtrack_any ds v2 w' (h2.gr hg) (fun c hc=>(m2 c hc).ok)
  rwa [(vtB_iff _).2 k2] at this
 have HT1:Hid (∀ w',Gr w w'→Calls Tryz.prog 35 #[v1] w' fun e w''=>e=.returned (.int .i64 (tot (cs.map CM.c)))∧Gr w' w''):=Lib.hid fun w' hg=>total_any cs v1 w' (h1.gr hg) (by omega) m1
 have HT2:Hid (∀ w',Gr w w'→Calls Tryz.prog 35 #[v2] w' fun e w''=>e=.returned (.int .i64 (tot (ds.map CM.c)))∧Gr w' w''):=Lib.hid fun w' hg=>total_any ds v2 w' (h2.gr hg) (by omega) m2
 have HC:Hid (∀ w' vx,Gr w w'→Rd w' vx 2 1 [v1,v2]→Calls Tryz.prog 37 #[vx] w' fun e w''=>∃ v',e=.returned v'∧Gr w' w''∧TrR w'' v' (cs ++ ds)):=Lib.hid fun w' vx hg hr=>by
  have:=concat_any [(v1,cs),(v2,ds)] vx w' hr (fun p hp=>by
   rcases List.mem_cons.1 hp with rfl | hp
   ·exact h1.gr hg
   ·rw [List.mem_singleton.1 hp]
    exact h2.gr hg) (by simp) (by simp [lensP];omega)
  simpa using this
 obtain⟨P,hP⟩:∃ P,pk (cs.map CM.c ++ ds.map CM.c)=P:=⟨_,rfl⟩
 have HP:Hid (∀ w' vx,TrR w' vx (cs ++ ds)→Calls Tryz.prog 36 #[vx] w' fun e w''=>∃ v' ts,e=.returned v'∧Gr w' w''∧TrO w'.heap.size w'' v' ts∧ts.map CM.c=P):=Lib.hid fun w' vx hx=>by
  have:=pack_any (cs ++ ds) vx w' hx (by simp;omega) (fun c hc=>by
   rcases List.mem_append.1 hc with h | h
   ·exact m1 c h
   ·exact m2 c h) (by rw [List.map_append,tot_append];omega)
  rw [List.map_append,hP] at this
  exact this
 have hPl:P.length≤128:=by
  rw [← hP]
  have:=pk_len (cs.map CM.c ++ ds.map CM.c)
  rw [List.length_append,List.length_map,List.length_map] at this
  omega
 rw [hP]
 obtain⟨a1,c1,rfl,-⟩:=h1.shape
 obtain⟨a2,c2,rfl,-⟩:=h2.shape
 obtain⟨T1,hT1⟩:∃ T1,tot (cs.map CM.c)=T1:=⟨_,rfl⟩
 obtain⟨T2,hT2⟩:∃ T2,tot (ds.map CM.c)=T2:=⟨_,rfl⟩
 rw [hT1] at HT1 ht t1
 rw [hT2] at HT2 ht t2
 have q1:decide (2147483647<T1+T2)=false:=decide_eq_false (by omega)
 have hsum:T1+T2≤4294967296:=by omega
 have hmf:=hmf_any Tryz.prog
 clear k1 k2 m1 m2 h1 h2 hT1 hT2 hP
 go_enter_defers Tryz.func16,Tryz.ntmps16
 go_upto_region 6 with (first
  | (go_at_call 34;first
    | ((with_reducible refine (HV1.out _ ?_).mono ?_);(· exact (by repeat (first | with_reducible exact Gr.refl _ | with_reducible assumption | refine Gr.setCell ?_ (by first | omega | (simp;done) | (simp;omega)) _ | refine Gr.alloc ?_ _ | refine Gr.drew ?_ | refine Gr.drewN ?_ _ | refine Gr.trans ?_ (by with_reducible assumption))));rintro e w1 ⟨rfl,hg1⟩)
    | ((with_reducible refine (HV2.out _ ?_).mono ?_);(· exact (by repeat (first | with_reducible exact Gr.refl _ | with_reducible assumption | refine Gr.setCell ?_ (by first | omega | (simp;done) | (simp;omega)) _ | refine Gr.alloc ?_ _ | refine Gr.drew ?_ | refine Gr.drewN ?_ _ | refine Gr.trans ?_ (by with_reducible assumption))));rintro e w2 ⟨rfl,hg2⟩))
  | (go_at_call 35;first
    | ((with_reducible refine (HT1.out _ ?_).mono ?_);(· exact (by repeat (first | with_reducible exact Gr.refl _ | with_reducible assumption | refine Gr.setCell ?_ (by first | omega | (simp;done) | (simp;omega)) _ | refine Gr.alloc ?_ _ | refine Gr.drew ?_ | refine Gr.drewN ?_ _ | refine Gr.trans ?_ (by with_reducible assumption))));rintro e w3 ⟨rfl,hg3⟩)
    | ((with_reducible refine (HT2.out _ ?_).mono ?_);(· exact (by repeat (first | with_reducible exact Gr.refl _ | with_reducible assumption | refine Gr.setCell ?_ (by first | omega | (simp;done) | (simp;omega)) _ | refine Gr.alloc ?_ _ | refine Gr.drew ?_ | refine Gr.drewN ?_ _ | refine Gr.trans ?_ (by with_reducible assumption))));rintro e w4 ⟨rfl,hg4⟩)))
 have hgA:Gr ((w.alloc (.cells #[.slice none 0 0] 28)).alloc (.cells #[.int .i64 0] 29)) w4:=((hg1.trans hg2).trans hg3).trans hg4
 have hgw:Gr w w4:=(((Gr.refl w).alloc _).alloc _).trans hgA
 clear hg1 hg2 hg3 hg4 HV1 HV2 HT1 HT2
 go_upto_region 7 with (first
  | (go_at_call 37;(with_reducible refine (HC.out _ _ (hgw.alloc _) ?_).mono ?_);(· exact Rd.new w4 #[.slice a1 cs.length c1,.slice a2 ds.length c2] 28 2 1 2 rfl);rintro e w5 ⟨v5,rfl,hg5,hT5⟩)
  | (go_at_call 36;(with_reducible refine (HP.out _ _ hT5).mono ?_);rintro e w6 ⟨v6,ts,rfl,hg6,hO6,hts⟩;obtain⟨p6,c6,rfl⟩:=own_shape hO6.own;obtain⟨r1,r2⟩:=res_two _ _ _ _ _ _ ((hgA.alloc (.cells #[.slice a1 cs.length c1,.slice a2 ds.length c2] 28)).trans (hg5.trans hg6));obtain⟨r10,r1f⟩:=r1.one;obtain⟨r20,r2f⟩:=r2.one))
 have hlen:ts.length=P.length:=by rw [← hts,List.length_map]
 have hsz:w.heap.size+2≤w5.heap.size:=by
  have x1:=hgA.size
  have x2:=hg5.size
  simp at x1 x2
  omega
 have hge:=own_ge hO6.own
 have hb1:(Value.slice p6 ts.length c6).ownBlock≠some w.heap.size:=fun h=>by have:=hge _ h;omega
 have hb2:(Value.slice p6 ts.length c6).ownBlock≠some (w.heap.size+1):=fun h=>by have:=hge _ h;omega
 have hT7:=hO6.read.put (g:=w.heap.size) (o':=0) (u:=.slice p6 ts.length c6) hb1 r10 (.inr (by simp))
 have r17:Cel (w6.setCell ⟨w.heap.size,0,none⟩ (.slice p6 ts.length c6)) w.heap.size [.slice p6 ts.length c6]:=r1.set (k:=0) (by simp) (.slice p6 ts.length c6)
 have r27:Cel (w6.setCell ⟨w.heap.size,0,none⟩ (.slice p6 ts.length c6)) (w.heap.size+1) [.int .i64 0]:=r2.other (p:=⟨w.heap.size,0,none⟩) (by simp) (.slice p6 ts.length c6)
 have hg7:Gr w (w6.setCell ⟨w.heap.size,0,none⟩ (.slice p6 ts.length c6)):=((hgw.alloc _).trans (hg5.trans hg6)).setCell (Nat.le_refl _) _
 clear r1 r2 r10 r1f r20 r2f hge hO6 hT5 hg5 hg6 HC HP hgA hgw
 generalize w6.setCell ⟨w.heap.size,0,none⟩ (.slice p6 ts.length c6)=W7 at *
 obtain⟨r10,r1f⟩:=r17.one
 obtain⟨r20,r2f⟩:=r27.one
 replace hlen:=Lib.hid hlen
 replace hts:=Lib.hid hts
 by_cases h64:64<ts.length
 ·have q2:decide (64<(ts.length:Int))=true:=decide_eq_true (by omega)
  go_wp2
  refine leaves_cons (f:=33) (args:=#[.pointer (some ⟨w.heap.size,0,none⟩),.pointer (some ⟨w.heap.size+1,0,none⟩)]) (by simp) (by simp [go_sem]) ?_
  refine (joinD_idle _ _ _).mono ?_
  rintro e u' w'' ⟨rfl,rfl,rfl⟩
  simp [Leaves,settle,results,Tryz.results16,go_sem,r10,r20]
  exact⟨_,_,⟨rfl,rfl⟩,(hg7.setCell (p:=⟨w.heap.size,0,none⟩) (Nat.le_refl _) _).setCell (p:=⟨w.heap.size+1,0,none⟩) (Nat.le_succ _) _,.inr ⟨rfl,rfl,by rw [← hlen.out];exact h64⟩⟩
 ·have q2:decide (64<(ts.length:Int))=false:=decide_eq_false (by omega)
  have hT8:TrR (W7.setCell ⟨w.heap.size,0,none⟩ (.slice p6 ts.length c6)) (.slice p6 ts.length c6) ts:=hT7.put hb1 r10 (.inl rfl)
  have r28:Cel (W7.setCell ⟨w.heap.size,0,none⟩ (.slice p6 ts.length c6)) (w.heap.size+1) [.int .i64 0]:=r27.other (p:=⟨w.heap.size,0,none⟩) (by simp) (.slice p6 ts.length c6)
  have hT9:=hT8.put (g:=w.heap.size+1) (o':=0) (u:=.int .i64 0) hb2 r28.one.1 (.inl rfl)
  have hg9:=(hg7.setCell (p:=⟨w.heap.size,0,none⟩) (Nat.le_refl _) (.slice p6 ts.length c6)).setCell (p:=⟨w.heap.size+1,0,none⟩) (Nat.le_succ _) (.int .i64 0)
  replace hT9:=Lib.hid hT9
  clear hT8 r28
  go_wp2
  refine leaves_cons (f:=33) (args:=#[.pointer (some ⟨w.heap.size,0,none⟩),.pointer (some ⟨w.heap.size+1,0,none⟩)]) (by simp) (by simp [go_sem]) ?_
  refine (joinD_idle _ _ _).mono ?_
  rintro e u' w'' ⟨rfl,rfl,rfl⟩
  simp [Leaves,settle,results,Tryz.results16,go_sem,r10,r20]
  exact⟨_,_,⟨rfl,rfl⟩,hg9,.inl ⟨rfl,ts,hT9.out,hts.out,by omega⟩⟩
theorem plS_val0 {r:ByteArray} (h:r.size=0) (n:Int):(plS r n).val=.agg #[.int .i64 0,.string ⟨#[]⟩,.int .i64 0,.int .i64 0,.int .i64 0,.int .i64 0,.bool false]:=by
 unfold plS
 rw [if_pos h]
 rfl
theorem plS_val1 {r:ByteArray} (h:r.size≠0) (n:Int):(plS r n).val=.agg #[.int .i64 1,.string r,.int .i64 n,.int .i64 1,.int .i64 1,.int .i64 1,.bool false]:=by
 unfold plS
 rw [if_neg h]
 rfl
set_option maxRecDepth 20000 in
theorem esource_any (r:ByteArray) (n:Int) (w:World):Calls Tryz.prog 31 #[.string r,.int .i64 n] w fun e w'=>e=.returned (plS r n).val∧Gr w w':=by
 rcases Nat.eq_zero_or_pos r.size with h | h
 ·have q:r.toList.isEmpty=true:=by rw [size_zero_iff];exact decide_eq_true h
  rw [plS_val0 h]
  go_enter Tryz.func31,Tryz.ntmps31
  go_wp2
  simp [bodyPost,results,Tryz.results31,go_sem]
  exact (Gr.refl _).alloc _
 ·have q:r.toList.isEmpty=false:=by rw [size_zero_iff];exact decide_eq_false (by omega)
  rw [plS_val1 (by omega)]
  go_enter Tryz.func31,Tryz.ntmps31
  go_wp2
  simp [bodyPost,results,Tryz.results31,go_sem]
  exact (Gr.refl _).alloc _
theorem infoEvt:(Tryz.prog.info? 38).map (·.size)=some 8:=by kernel_rfl
theorem Ev.one (e:Ev):∀ v∈e.cells,v.oneCell'=true:=fun v hv=>by
 unfold Ev.cells at hv
 simp only [List.mem_cons,List.not_mem_nil,or_false] at hv
 rcases hv with rfl | rfl | rfl | rfl | rfl | rfl | rfl | rfl <;> rfl
set_option maxRecDepth 20000 in
set_option maxHeartbeats 4000000 in
theorem before_core (k k7:Nat) (hk8:8=k) (hk7:7=k7) (es:List Ev) (v:Value) (n:Int) (w:World) (h:EvsR w v es) (hn:es.length≤1000000) :
  Calls Tryz.prog 32 #[v,.int .i64 n] w fun e w'=>e=.returned (bfR es.reverse n).val∧Gr w w':=by
 have aE7:∀ w,(isAgg 59).run Tryz.prog w=.ok true w:=Tryz.isAgg59
 have zE7:∀ w,(Go.sizeOf 59).run Tryz.prog w=.ok k7 w:=fun w=>by rw [← hk7];exact Tryz.sizeOf59 w
 have aE:∀ w,(isAgg 38).run Tryz.prog w=.ok true w:=Tryz.isAgg38
 have zE:∀ w,(Go.sizeOf 38).run Tryz.prog w=.ok k w:=fun w=>by rw [← hk8];exact Tryz.sizeOf38 w
 have hk0:¬ k7=0:=by omega
 have hB1:Blk (w.alloc (.cells #[.int .i64 0,.string ⟨#[]⟩,.int .i64 0,.int .i64 0,.int .i64 0,.int .i64 0,.bool false] 59)) w.heap.size 59 [.int .i64 0,.string ⟨#[]⟩,.int .i64 0,.int .i64 0,.int .i64 0,.int .i64 0,.bool false]:=Blk.new w [.int .i64 0,.string ⟨#[]⟩,.int .i64 0,.int .i64 0,.int .i64 0,.int .i64 0,.bool false] 59
 rcases List.eq_nil_or_concat es with rfl | ⟨ini,x,rfl⟩
 ·obtain⟨a,cap,rfl,-⟩:=h.shape
  clear aE7 zE7
  replace hk7:=Lib.hid hk7
  replace hk8:=Lib.hid hk8
  go_enter Tryz.func32,Tryz.ntmps32
  go_wp2
  simp [bodyPost,results,Tryz.results32,go_sem]
  exact⟨rfl,(Gr.refl _).alloc _⟩
 ·rw [List.concat_eq_append] at *
  have hle:(ini ++ [x]).length=ini.length+1:=by simp
  obtain⟨a,cap,rfl,h0 | ⟨b,o,rfl,hb,hc⟩⟩:=h.shape
  ·rw [hle] at h0;omega
  have hcell:=hc ini.length (by rw [hle];omega)
  rw [show (ini ++ [x])[ini.length]'(by rw [hle];omega)=x by simp] at hcell
  have hbf:bfR (ini ++ [x]).reverse n=if x.t=n then plS x.reel x.o else blkS:=by
   rw [List.reverse_append]
   rfl
  rw [hbf]
  rw [hle] at hn ⊢
  have hW1:=hB1.gr (Gr.refl _)
  have hg1:Gr w (w.alloc (.cells #[.int .i64 0,.string ⟨#[]⟩,.int .i64 0,.int .i64 0,.int .i64 0,.int .i64 0,.bool false] 59)):=(Gr.refl w).alloc _
  have hone:=Ev.one x
  have hlk:x.cells.length=k:=by rw [← hk8];rfl
  have x3:x.cells[3]?=some (.string x.reel):=rfl
  have x5:x.cells[5]?=some (.int .i64 x.o):=rfl
  have x7:x.cells[7]?=some (.int .i64 x.t):=rfl
  have la:Sem.run Tryz.prog (loadCellsFrom ⟨b,o+ini.length * k,none⟩ 0 k #[]) (w.alloc (.cells #[.int .i64 0,.string ⟨#[]⟩,.int .i64 0,.int .i64 0,.int .i64 0,.int .i64 0,.bool false] 59))=.ok x.cells.toArray (w.alloc (.cells #[.int .i64 0,.string ⟨#[]⟩,.int .i64 0,.int .i64 0,.int .i64 0,.int .i64 0,.bool false] 59)):=by
   rw [← hk8]
   exact ld_row rfl fun j u hu=>(hg1.cells.1 b _ hb).trans (hcell j u hu)
  have hnl:((ini.length:Int)+1 - 1)=(ini.length:Int):=by omega
  have hxb:b<(w.alloc (.cells #[.int .i64 0,.string ⟨#[]⟩,.int .i64 0,.int .i64 0,.int .i64 0,.int .i64 0,.bool false] 59)).heap.size:=Nat.lt_of_lt_of_le hb hg1.size
  have hS:=Lib.hid fun w'=>esource_any x.reel x.o w'
  obtain⟨ps,hps⟩:∃ ps,plS x.reel x.o=ps:=⟨_,rfl⟩
  rw [hps] at hS ⊢
  have hsz1:(w.alloc (.cells #[.int .i64 0,.string ⟨#[]⟩,.int .i64 0,.int .i64 0,.int .i64 0,.int .i64 0,.bool false] 59)).heap.size=w.heap.size+1:=by simp
  replace hk7:=Lib.hid hk7
  replace hk8:=Lib.hid hk8
  obtain⟨Wz,hWz⟩:∃ Wz,w.alloc (.cells #[.int .i64 0,.string ⟨#[]⟩,.int .i64 0,.int .i64 0,.int .i64 0,.int .i64 0,.bool false] 59)=Wz:=⟨_,rfl⟩
  obtain⟨rl,hrl⟩:∃ rl,x.reel=rl:=⟨_,rfl⟩
  obtain⟨xo,hxo⟩:∃ xo,x.o=xo:=⟨_,rfl⟩
  obtain⟨xt,hxt⟩:∃ xt,x.t=xt:=⟨_,rfl⟩
  rw [hrl] at x3 hS
  rw [show ps.val=.agg ps.cells.toArray from rfl] at hS
  rw [hxo] at x5 hS
  rw [hxt] at x7 ⊢
  rw [hWz] at hB1 hg1 la hxb hsz1
  have st:Sem.run Tryz.prog (storeCells ⟨Wz.heap.size,0,none⟩ x.cells 0) (Wz.alloc (.cells #[.int .i64 0,.int .i64 0,.int .i64 0,.string ⟨#[]⟩,.int .i64 0,.int .i64 0,.int .i64 0,.int .i64 0] 38))=.ok () (Wz.alloc (.cells x.cells.toArray 38)):=st_new Wz _ _ x.cells (by rw [hlk,← hk8.out];exact infoEvt) (by rw [hlk,← hk8.out];rfl) hone
  have hbx:Blk (Wz.alloc (.cells x.cells.toArray 38)) Wz.heap.size 38 x.cells:=Blk.new Wz x.cells 38
  have hb2:=hB1.gr ((Gr.refl Wz).alloc (.cells x.cells.toArray 38))
  have hg2:=hg1.alloc (.cells x.cells.toArray 38)
  rw [hsz1] at st hbx
  replace hWz:=Lib.hid hWz
  clear hcell hc hb hbf hle hxo hrl hxt
  generalize x.cells=l at *
  have y:=hbx.lt
  have y3:=(hbx.cel.2 3 _ x3).1
  have y5:=(hbx.cel.2 5 _ x5).1
  have y7:=(hbx.cel.2 7 _ x7).1
  obtain⟨We,hWe⟩:∃ We,Wz.alloc (.cells l.toArray 38)=We:=⟨_,rfl⟩
  rw [hWe] at st hbx hb2 hg2 y y3 y5 y7
  replace hWe:=Lib.hid hWe
  have q0:((ini.length:Int)+1 == 0)=false:=by rw [beq_eq_false_iff_ne];omega
  by_cases ht:xt=n
  ·rw [if_pos ht]
   have q1:(xt != n)=false:=by simp [ht]
   replace ht:=Lib.hid ht
   have hl7:ps.cells.length=k7:=hk7.out
   go_enter Tryz.func32,Tryz.ntmps32
   go_upto_region 3 with fail
   rw [hWz.out]
   go_upto_region 6 with fail
   go_wp2_with (go_at_call 31;(with_reducible refine (hS.out _).mono ?_);rintro e w5 ⟨rfl,hg5⟩;have hb5:=hb2.gr hg5;have st5:=st_blk (P:=Tryz.prog) (l:=ps.cells) hb5 rfl (Sr.one ps);have ld5:=ld_blk (P:=Tryz.prog) hl7 (hb5.setRow ps.cells))
   simp [bodyPost,results,Tryz.results32,go_sem,aE7,zE7,ld5]
   exact⟨rfl,(hg2.trans hg5).setRow (Nat.le_refl _) _⟩
  ·rw [if_neg ht]
   have q1:(xt != n)=true:=by simp [ht]
   replace ht:=Lib.hid ht
   clear aE7 zE7
   obtain⟨z0,f0⟩:=hb2.cel.2 0 _ rfl
   obtain⟨z1,f1⟩:=hb2.cel.2 1 _ rfl
   obtain⟨z2,f2⟩:=hb2.cel.2 2 _ rfl
   obtain⟨z3,f3⟩:=hb2.cel.2 3 _ rfl
   obtain⟨z4,f4⟩:=hb2.cel.2 4 _ rfl
   obtain⟨z5,f5⟩:=hb2.cel.2 5 _ rfl
   obtain⟨z6,f6⟩:=hb2.cel.2 6 _ rfl
   have z:=hb2.lt
   go_enter Tryz.func32,Tryz.ntmps32
   go_upto_region 3 with fail
   rw [hWz.out]
   go_wp2
   simp [bodyPost,results,Tryz.results32,go_sem,z0,z1,z2,z3,z4,z5,z6]
   refine⟨rfl,?_⟩
   repeat (first | (with_reducible exact hg2) | (with_reducible refine Gr.setCell ?_ (Nat.le_refl _) _))
theorem before_any (es:List Ev) (v:Value) (n:Int) (w:World) (h:EvsR w v es) (hn:es.length≤1000000) :
  Calls Tryz.prog 32 #[v,.int .i64 n] w fun e w'=>e=.returned (bfR es.reverse n).val∧Gr w w':=before_core 8 7 rfl rfl es v n w h hn
def cm0 (c:Cl):CM:=⟨c,.slice none 0 0⟩
theorem cm0_ch (w:World) {c:Cl} (h:c.ch=[]):ChR w (cm0 c):=by
 unfold ChR cm0
 simp only
 rw [h]
 exact Rd.nil w 1
structure ES (e:Ev):Prop where
 k:e.k=0∨e.k=1∨e.k=2
 k0:e.k=0→e.fr=0
 k1:e.k≠0→1≤e.fr
 f:0≤e.f∧e.f<e.t∧e.t≤1099511627776
 fr:0≤e.fr∧e.fr≤e.t - e.f
 i:0≤e.i∧e.i≤1099511627776
set_option maxRecDepth 20000 in
set_option maxHeartbeats 4000000 in
theorem clips_cut (k:Nat) (hk8:8=k) (es:List Ev) (v:Value) (i:Nat) (w:World) (h:EvsR w v es) (hn:es.length≤1000000) (hi:i<es.length) (hs:ES es[i]) (hk:es[i].k=0) :
  Calls Tryz.prog 15 #[v,.int .i64 i] w fun e w'=>∃ v',e=.returned v'∧Gr w w'∧TrR w' v' [cm0 (cutC (es[i].t - es[i].f) (plS es[i].reel es[i].i))]:=by
 have aE:∀ w,(isAgg 38).run Tryz.prog w=.ok true w:=Tryz.isAgg38
 have zE:∀ w,(Go.sizeOf 38).run Tryz.prog w=.ok k w:=fun w=>by rw [← hk8];exact Tryz.sizeOf38 w
 obtain⟨a,cap,rfl,h0 | ⟨b,o,rfl,hb,hc⟩⟩:=h.shape
 ·omega
 have hcell:=hc i hi
 generalize es[i]=x at *
 have hone:=Ev.one x
 have hlk:x.cells.length=k:=by rw [← hk8];rfl
 have x0:x.cells[0]?=some (.int .i64 0):=by rw [← hk];rfl
 have x3:x.cells[3]?=some (.string x.reel):=rfl
 have x4:x.cells[4]?=some (.int .i64 x.i):=rfl
 have x6:x.cells[6]?=some (.int .i64 x.f):=rfl
 have x7:x.cells[7]?=some (.int .i64 x.t):=rfl
 have la:Sem.run Tryz.prog (loadCellsFrom ⟨b,o+i * k,none⟩ 0 k #[]) w=.ok x.cells.toArray w:=by
  rw [← hk8]
  exact ld_row rfl hcell
 have st:Sem.run Tryz.prog (storeCells ⟨w.heap.size,0,none⟩ x.cells 0) (w.alloc (.cells #[.int .i64 0,.int .i64 0,.int .i64 0,.string ⟨#[]⟩,.int .i64 0,.int .i64 0,.int .i64 0,.int .i64 0] 38))=.ok () (w.alloc (.cells x.cells.toArray 38)):=st_new w _ _ x.cells (by rw [hlk,← hk8];exact infoEvt) (by rw [hlk,← hk8];rfl) hone
 have hbx:Blk (w.alloc (.cells x.cells.toArray 38)) w.heap.size 38 x.cells:=Blk.new w x.cells 38
 have hg2:Gr w (w.alloc (.cells x.cells.toArray 38)):=(Gr.refl w).alloc _
 have hS:=Lib.hid fun w'=>esource_any x.reel x.i w'
 obtain⟨ps,hps⟩:∃ ps,plS x.reel x.i=ps:=⟨_,rfl⟩
 rw [hps] at hS ⊢
 obtain⟨s1,s2⟩:=hs.f
 replace hk8:=Lib.hid hk8
 clear hc hcell hps hs hk h
 generalize x.cells=l at *
 generalize x.reel=rl at *
 generalize x.i=xi at *
 generalize x.f=xf at *
 generalize x.t=xt at *
 have y:=hbx.lt
 have y0:=(hbx.cel.2 0 _ x0).1
 have y3:=(hbx.cel.2 3 _ x3).1
 have y4:=(hbx.cel.2 4 _ x4).1
 have y6:=(hbx.cel.2 6 _ x6).1
 have y7:=(hbx.cel.2 7 _ x7).1
 go_enter Tryz.func15,Tryz.ntmps15
 go_upto_region 3 with fail
 generalize w.alloc (.cells l.toArray 38)=W at *
 unfold Sr.val at hS
 refine wp_region_gr_tail 11 (by kernel_rfl) (by kernel_rfl) (fun hq1 hq2=>?_)
 simp only [List.take_succ_cons,List.take_zero,List.drop_succ_cons,List.drop_zero]
 repeat (first | go_big_quiet_skip | (go_big_quiet_want;go_big_quiet_op;first | go_big_quiet_on | (apply Exists.intro;refine⟨fun _=>?_,?_⟩;(· ((go_at_call 31;exact gr_call (hS.out _))));go_big_quiet_on)))
 refine wpQuiet_nil ?_
 clear hq1 hq2
 rintro w1 ⟨⟨_,hg1⟩,rfl⟩
 obtain⟨hc1,hf1⟩:=hg1.cells
 have hz1:=hg1.size
 (try simp at hz1);(try have hl1_0_0:w.heap.size<w1.heap.size:=by omega);(try have hm1_0_0:w.heap.size≤w1.heap.size:=by omega);(try have hl1_0_1:w.heap.size+1<w1.heap.size:=by omega);(try have hl1_0_2:w.heap.size+2<w1.heap.size:=by omega)
 have hgw:=hg2.trans hg1
 go_wp2_with (refine wpList_bs1 rfl 27 61 (.tmp 25) rfl 22 (by kernel_rfl) (by kernel_rfl) (by omega) (by omega) (cm0 (cutC (xt - xf) ps)).cells rfl rfl ?_)
 go_ret
 refine⟨_,rfl,hgw.alloc _,⟨?_,fun c hc=>?_⟩⟩
 ·have:=Rd.new w1 (cm0 (cutC (xt - xf) ps)).cells.toArray 61 1 22 1 rfl
  simpa [cflat] using this
 ·rw [List.mem_singleton.1 hc]
  exact cm0_ch _ rfl
theorem EvsR.take {w:World} {b o cap:Nat} {es:List Ev} (i:Nat) (hi:i≤es.length) (h:EvsR w (.slice (some ⟨b,o,none⟩) es.length cap) es):EvsR w (.slice (some ⟨b,o,none⟩) i cap) (es.take i):=by
 obtain⟨_,a,c,h2,h3⟩:=h
 injection h2 with h4 h5 h6
 subst h4
 have hl:(es.take i).length=i:=by simp;omega
 unfold EvsR
 rw [hl]
 refine⟨by rw [eflat_length,hl],_,cap,rfl,?_⟩
 rcases h3 with ⟨h8,_⟩ | ⟨b',o',h7,hb,hc⟩
 ·exact .inl ⟨by omega,fun h=>by cases h⟩
 ·obtain⟨rfl,rfl⟩:b=b'∧o=o':=by simpa using h7
  refine .inr ⟨_,_,rfl,hb,fun j u hu=>hc j u ?_⟩
  have:eflat es=eflat (es.take i) ++ eflat (es.drop i):=by rw [← eflat_append,List.take_append_drop]
  rw [this,List.getElem?_append_left (List.getElem?_eq_some_iff.1 hu).1]
  exact hu
theorem wpList_bs2 {P:Program} {ops:Array Oper} {rest:List Oper} {o:Oper} {a:Act} {w:World} {Q:Exit→Act→World→Prop} (hg:o.guard=none) (t e:TypeId) (x y:Operand) (ho:o.op=.buildSlice t 2 #[(0,x),(1,y)]) (n:Nat)
  (hu:P.underlying t=some (.slice e)) (hi:(P.info? e).map (fun i=>(i.zero.map fun z=>z.cells.size,i.size))=some (some n,n)) (h0:0<n) (h9:n≤1000000) (l1 l2:List Value) (hl1:l1.length=n) (hl2:l2.length=n) (hx:a.eval x=.agg l1.toArray) (hy:a.eval y=.agg l2.toArray)
  (h:wpList P ops Q rest (a.put o.dst (.slice (some ⟨w.heap.size,0,none⟩) 2 2)) (w.alloc (.cells (l1 ++ l2).toArray e))):wpList P ops Q (o :: rest) a w:=by
 cases hq:P.info? e with
 | none=>simp [hq] at hi
 | some ie=>
  cases hz:ie.zero with
  | none=>simp [hq,hz] at hi
  | some z=>
   simp [hq,hz] at hi
   refine wpList_buildSlice hg t e 2 _ ho _ ie z hu hq hz (by rw [hi.2];omega) (by rw [hi.2];omega) ?_ h
   have:=Great.fill_whole h0 [Value.agg l1.toArray,Value.agg l2.toArray] ((Array.range (2 * ie.size)).map (z.cells[· % z.cells.size]!)) (fun v hv=>by
    simp only [List.mem_cons,List.not_mem_nil,or_false] at hv
    rcases hv with rfl | rfl
    ·simpa [Value.cells] using hl1
    ·simpa [Value.cells] using hl2) (by simp [hi.2])
   simpa [hi.2,Value.cells,hx,hy] using this
theorem evC_any (x:Ev) (bf:Sr) {p2:Sr} {R:List CM} (hk:x.k=1∨x.k=2) (s6:1≤x.fr) (s4:0≤x.fr∧x.fr≤x.t - x.f) (hp2:plS x.reel (x.i+x.fr)=p2) (hR:(evC bf x).map cm0=R) :
  (x.t - x.f - x.fr=0∧R=[cm0 (mixC x bf)])∨(x.t - x.f - x.fr≠0∧R=[cm0 (mixC x bf),cm0 (cutC (x.t - x.f - x.fr) p2)]):=by
 rw [← hR]
 unfold evC evM
 rw [if_neg (by omega)]
 by_cases h:x.t - x.f - x.fr=0
 ·rw [evR_zero (by omega)]
  exact .inl ⟨h,rfl⟩
 ·rw [evR_pos (by omega),hp2]
  exact .inr ⟨h,rfl⟩
theorem Cel.row_other {w:World} {b g:Nat} {vs:List Value} (h:Cel w b vs) (hb:b≠g) (l:Array Value):Cel (w.setRow g l) b vs:=h.grown (grown_setRow w g l) (fun e=>hb (by injection e with e;exact e.symm))
set_option maxRecDepth 20000 in
set_option maxHeartbeats 4000000 in
theorem clips_mix (k kc:Nat) (hk8:8=k) (hk22:22=kc) (es:List Ev) (v:Value) (i:Nat) (w:World) (h:EvsR w v es) (hcp:∀ a n c,v=.slice a n c→n≤c) (hn:es.length≤1000000) (hi:i<es.length) (hs:ES es[i]) (hk:es[i].k=1∨es[i].k=2) :
  Calls Tryz.prog 15 #[v,.int .i64 i] w fun e w'=>∃ v',e=.returned v'∧Gr w w'∧TrR w' v' ((evC (bfR (es.take i).reverse es[i].f) es[i]).map cm0):=by
 have aE:∀ w,(isAgg 38).run Tryz.prog w=.ok true w:=Tryz.isAgg38
 have zE:∀ w,(Go.sizeOf 38).run Tryz.prog w=.ok k w:=fun w=>by rw [← hk8];exact Tryz.sizeOf38 w
 have aC:∀ w,(isAgg 61).run Tryz.prog w=.ok true w:=Tryz.isAgg61
 have zC:∀ w,(Go.sizeOf 61).run Tryz.prog w=.ok kc w:=fun w=>by rw [← hk22];exact Tryz.sizeOf61 w
 obtain⟨a,cap,rfl,h0 | ⟨b,o,rfl,hb,hc⟩⟩:=h.shape
 ·omega
 have hcap:=hcp _ _ _ rfl
 have hic:i≤cap:=by omega
 clear hcp
 have hcell:=hc i hi
 have hT:=h.take i (by omega)
 have HB:=Lib.hid fun w' (hg:Gr w w')=>before_any (es.take i) _ es[i].f w' (hT.gr hg) (by rw [List.length_take];omega)
 obtain⟨bf,hbf⟩:∃ bf,bfR (es.take i).reverse es[i].f=bf:=⟨_,rfl⟩
 rw [hbf] at HB ⊢
 generalize es[i]=x at *
 have hone:=Ev.one x
 have hlk:x.cells.length=k:=by rw [← hk8];rfl
 have x0:x.cells[0]?=some (.int .i64 x.k):=rfl
 have x1:x.cells[1]?=some (.int .i64 x.p):=rfl
 have x2:x.cells[2]?=some (.int .i64 x.fr):=rfl
 have x3:x.cells[3]?=some (.string x.reel):=rfl
 have x4:x.cells[4]?=some (.int .i64 x.i):=rfl
 have x6:x.cells[6]?=some (.int .i64 x.f):=rfl
 have x7:x.cells[7]?=some (.int .i64 x.t):=rfl
 have la:Sem.run Tryz.prog (loadCellsFrom ⟨b,o+i * k,none⟩ 0 k #[]) w=.ok x.cells.toArray w:=by
  rw [← hk8]
  exact ld_row rfl hcell
 have st:Sem.run Tryz.prog (storeCells ⟨w.heap.size,0,none⟩ x.cells 0) (w.alloc (.cells #[.int .i64 0,.int .i64 0,.int .i64 0,.string ⟨#[]⟩,.int .i64 0,.int .i64 0,.int .i64 0,.int .i64 0] 38))=.ok () (w.alloc (.cells x.cells.toArray 38)):=st_new w _ _ x.cells (by rw [hlk,← hk8];exact infoEvt) (by rw [hlk,← hk8];rfl) hone
 have hbx:Blk (w.alloc (.cells x.cells.toArray 38)) w.heap.size 38 x.cells:=Blk.new w x.cells 38
 have hg2:Gr w (w.alloc (.cells x.cells.toArray 38)):=(Gr.refl w).alloc _
 have hS1:=Lib.hid fun w'=>esource_any x.reel x.i w'
 have hS2:=Lib.hid fun w'=>esource_any x.reel (x.i+x.fr) w'
 obtain⟨p1,hp1⟩:∃ p1,plS x.reel x.i=p1:=⟨_,rfl⟩
 obtain⟨p2,hp2⟩:∃ p2,plS x.reel (x.i+x.fr)=p2:=⟨_,rfl⟩
 rw [hp1] at hS1
 rw [hp2] at hS2
 obtain⟨R,hR⟩:∃ R,(evC bf x).map cm0=R:=⟨_,rfl⟩
 rw [hR]
 replace hR:=Lib.hid hR
 replace hp1:=Lib.hid hp1
 replace hp2:=Lib.hid hp2
 obtain⟨s1,s2,s3⟩:=hs.f
 have s4:=hs.fr
 have s5:=hs.i
 have s6:=hs.k1 (by omega)
 obtain⟨W0,hW0⟩:∃ W0,w.alloc (.cells x.cells.toArray 38)=W0:=⟨_,rfl⟩
 rw [hW0] at st hbx hg2
 obtain⟨l,hl⟩:∃ l,x.cells=l:=⟨_,rfl⟩
 rw [hl] at hone hlk x0 x1 x2 x3 x4 x6 x7 la st hbx hW0
 have y:=hbx.lt
 have y0:=(hbx.cel.2 0 _ x0).1
 have y1:=(hbx.cel.2 1 _ x1).1
 have y2:=(hbx.cel.2 2 _ x2).1
 have y3:=(hbx.cel.2 3 _ x3).1
 have y4:=(hbx.cel.2 4 _ x4).1
 have y6:=(hbx.cel.2 6 _ x6).1
 have y7:=(hbx.cel.2 7 _ x7).1
 have hkz:(x.k == 0)=false:=by rw [beq_eq_false_iff_ne];omega
 replace hk8:=Lib.hid hk8
 replace hk22:=Lib.hid hk22
 replace hW0:=Lib.hid hW0
 replace hbf:=Lib.hid hbf
 clear hc hcell h hT hl
 unfold Sr.val at HB hS1 hS2
 go_enter Tryz.func15,Tryz.ntmps15
 go_upto_region 4 with fail
 refine wp_region_made1 18 (.cells #[.int .i64 0,.int .i64 0,.int .i64 0,.string ⟨#[]⟩,.int .i64 0,.int .i64 0,.int .i64 0,.int .i64 0,.bool false,.int .i64 0,.string ⟨#[]⟩,.int .i64 0,.int .i64 0,.int .i64 0,.int .i64 0,.bool false,.int .i64 0,.int .i64 0,.int .i64 0,.string ⟨#[]⟩,.int .i64 0,.slice none 0 0] 61) _ (by kernel_rfl) (by kernel_rfl) rfl rfl (fun a w=>by simp [execOp,go_sem]) (fun B hB hq1 hq2=>?_)
 simp only [List.take_succ_cons,List.take_zero,List.drop_succ_cons,List.drop_zero]
 repeat (first | go_big_quiet_skip | (go_big_quiet_want;go_big_quiet_op;first | go_big_quiet_on | (apply Exists.intro;refine⟨fun _=>?_,?_⟩;(· (first | (go_at_call 32;exact gr_call (HB.out _ (hg2.trans (hB.trans (GW.h _))))) | (go_at_call 31;exact gr_call (hS1.out _))));go_big_quiet_on)))
 refine wpQuiet_nil ?_
 clear hq1 hq2 hB
 rintro G w4 hg4 hs4_G hb4_G
 rw [show (Value.agg #[.int .i64 x.fr,.int .i64 2,.int .i64 bf.k,.string bf.nm,.int .i64 bf.an,.int .i64 bf.ad,.int .i64 bf.sn,.int .i64 bf.sd,.bool bf.sm,.int .i64 p1.k,.string p1.nm,.int .i64 p1.an,.int .i64 p1.ad,.int .i64 p1.sn,.int .i64 p1.sd,.bool p1.sm,.int .i64 0,.int .i64 x.fr,.int .i64 x.p,.string ⟨#[]⟩,.int .i64 0,.slice none 0 0])=.agg (cm0 ⟨x.fr,2,bf,p1,0,x.fr,x.p,noTx,0,[]⟩).cells.toArray from rfl]
 obtain⟨m1,hm1⟩:∃ m1:Cl,m1=⟨x.fr,2,bf,p1,0,x.fr,x.p,noTx,0,[]⟩:=⟨_,rfl⟩
 rw [← hm1]
 have hone1:∀ v∈(cm0 m1).cells,v.oneCell'=true:=(cm0_ch w (c:=m1) (by rw [hm1])).one
 have hl1:(cm0 m1).cells.length=22:=rfl
 have z1:(cm0 m1).cells[1]?=some (.int .i64 2):=by rw [hm1];rfl
 have hw1:(cm0 m1).cells.set 1 (.int .i64 3)=(cm0 ⟨x.fr,3,bf,p1,0,x.fr,x.p,noTx,0,[]⟩).cells:=by rw [hm1];rfl
 obtain⟨L1,hL1⟩:∃ L1,(cm0 m1).cells=L1:=⟨_,rfl⟩
 rw [hL1] at hone1 hl1 z1 hw1 ⊢
 replace hm1:=Lib.hid hm1
 replace hL1:=Lib.hid hL1
 replace hw1:=Lib.hid hw1
 have hbG:Blk w4 G 61 [.int .i64 0,.int .i64 0,.int .i64 0,.string ⟨#[]⟩,.int .i64 0,.int .i64 0,.int .i64 0,.int .i64 0,.bool false,.int .i64 0,.string ⟨#[]⟩,.int .i64 0,.int .i64 0,.int .i64 0,.int .i64 0,.bool false,.int .i64 0,.int .i64 0,.int .i64 0,.string ⟨#[]⟩,.int .i64 0,.slice none 0 0]:=hb4_G
 have stG:=st_blk (P:=Tryz.prog) hbG hl1 hone1
 have hlk1:L1.length=kc:=by rw [hl1];exact hk22.out
 have hbG1:=hbG.setRow L1
 have hge:W0.heap.size≤G:=hs4_G
 have hb0:Blk (w4.setRow G L1.toArray) w.heap.size 38 l:=(hbx.gr hg4).setRow_other (fun e=>by rw [e] at y;omega) _
 have hg5:Gr w (w4.setRow G L1.toArray):=(hg2.trans hg4).setRow (by have:=hg2.size;omega) _
 go_upto_region 5 with fail
 rename (22=kc)=>h22
 clear h22
 obtain⟨W5,hW5⟩:∃ W5,w4.setRow G L1.toArray=W5:=⟨_,rfl⟩
 rw [hW5] at hbG1 hb0 hg5 ⊢
 have hne:w.heap.size≠G:=fun e=>by rw [e] at y;omega
 have hgw:w.heap.size≤G:=by have:=hg2.size;omega
 clear y y0 y1 y2 y3 y4 y6 y7 hbx hbG stG hb4_G hg4 hW5 hs4_G hone1
 have y:=hb0.lt
 have y0:=(hb0.cel.2 0 _ x0).1
 have hgl:=hbG1.lt
 obtain⟨z1,f1⟩:=hbG1.cel.2 1 _ z1
 go_upto_if 47 with fail
 go_cut [48] (fun _ wx=>∃ L2,Cel wx G L2∧Hid (L2=(cm0 (mixC x bf)).cells)∧Blk wx w.heap.size 38 l∧Gr w wx)
 case first=>as_aux_lemma=>
  have hmx:mixC x bf=⟨x.fr,x.k+1,bf,p1,0,x.fr,x.p,noTx,0,[]⟩:=by rw [← hp1.out];rfl
  replace hmx:=Lib.hid hmx
  rcases hk with hk1 | hk2
  ·have q:(x.k == 2)=false:=by rw [hk1];rfl
   have hL2:Hid (L1=(cm0 (mixC x bf)).cells):=Lib.hid (by rw [hmx.out,hk1,← hL1.out,hm1.out];rfl)
   replace hk1:=Lib.hid hk1
   go_wp2
   go_meet
   exact⟨L1,hbG1.cel,hL2,hb0,hg5⟩
  ·have q:(x.k == 2)=true:=by rw [hk2];rfl
   have hL2:Hid (L1.set 1 (.int .i64 3)=(cm0 (mixC x bf)).cells):=Lib.hid (by rw [hmx.out,hk2,hw1.out];rfl)
   replace hk2:=Lib.hid hk2
   go_wp2
   go_meet
   exact⟨_,hbG1.cel.set (k:=1) (by rw [hl1];omega) (.int .i64 3),hL2,hb0.other (fun e=>hne e.symm) _,hg5.setCell hgw _⟩
 case rest=>
  obtain⟨L2,hG,hL2,hbx,hgx⟩:=hcut
  clear y y0 hgl z1 f1 hbG1 hb0 hg5 hw1 hL1 hm1
  have hc1:=(evC_any x bf hk s6 s4 hp2.out hR.out)
  replace hc1:=Lib.hid hc1
  have hwx:w.heap.size≤wc.heap.size:=hgx.size
  have y:=hbx.lt
  have hgl:=hG.lt
  have y2:=(hbx.cel.2 2 _ x2).1
  have y3:=(hbx.cel.2 3 _ x3).1
  have y4:=(hbx.cel.2 4 _ x4).1
  have y6:=(hbx.cel.2 6 _ x6).1
  have y7:=(hbx.cel.2 7 _ x7).1
  clear HB hS1 la st hone hg2 x0 x1 hkz
  go_upto_region 7 with fail
  refine wp_region_made1 17 (.cells #[.int .i64 0,.int .i64 0,.int .i64 0,.string ⟨#[]⟩,.int .i64 0,.int .i64 0,.int .i64 0,.int .i64 0,.bool false,.int .i64 0,.string ⟨#[]⟩,.int .i64 0,.int .i64 0,.int .i64 0,.int .i64 0,.bool false,.int .i64 0,.int .i64 0,.int .i64 0,.string ⟨#[]⟩,.int .i64 0,.slice none 0 0] 61) _ (by kernel_rfl) (by kernel_rfl) rfl rfl (fun a w=>by simp [execOp,go_sem]) (fun B hB hq1 hq2=>?_)
  simp only [List.take_succ_cons,List.take_zero,List.drop_succ_cons,List.drop_zero]
  repeat (first | go_big_quiet_skip | (go_big_quiet_want;go_big_quiet_op;first | go_big_quiet_on | (apply Exists.intro;refine⟨fun _=>?_,?_⟩;(· ((go_at_call 31;with_reducible exact gr_call (hS2.out _))));go_big_quiet_on)))
  refine wpQuiet_nil ?_
  clear hq1 hq2 hB
  rintro H w6 hg6 hs6_H hb6_H
  rw [show (Value.agg #[.int .i64 (x.t - x.f - x.fr),.int .i64 1,.int .i64 p2.k,.string p2.nm,.int .i64 p2.an,.int .i64 p2.ad,.int .i64 p2.sn,.int .i64 p2.sd,.bool p2.sm,.int .i64 0,.string ⟨#[]⟩,.int .i64 0,.int .i64 0,.int .i64 0,.int .i64 0,.bool false,.int .i64 0,.int .i64 0,.int .i64 0,.string ⟨#[]⟩,.int .i64 0,.slice none 0 0])=.agg (cm0 (cutC (x.t - x.f - x.fr) p2)).cells.toArray from rfl]
  have hone2:∀ v∈(cm0 (cutC (x.t - x.f - x.fr) p2)).cells,v.oneCell'=true:=(cm0_ch w rfl).one
  have z2:(cm0 (cutC (x.t - x.f - x.fr) p2)).cells[0]?=some (.int .i64 (x.t - x.f - x.fr)):=rfl
  have hl2:(cm0 (cutC (x.t - x.f - x.fr) p2)).cells.length=22:=rfl
  obtain⟨C2,hC2⟩:∃ C2,(cm0 (cutC (x.t - x.f - x.fr) p2)).cells=C2:=⟨_,rfl⟩
  rw [hC2] at hone2 hl2 z2 ⊢
  have hbH:Blk w6 H 61 [.int .i64 0,.int .i64 0,.int .i64 0,.string ⟨#[]⟩,.int .i64 0,.int .i64 0,.int .i64 0,.int .i64 0,.bool false,.int .i64 0,.string ⟨#[]⟩,.int .i64 0,.int .i64 0,.int .i64 0,.int .i64 0,.bool false,.int .i64 0,.int .i64 0,.int .i64 0,.string ⟨#[]⟩,.int .i64 0,.slice none 0 0]:=hb6_H
  have hsH:wc.heap.size≤H:=hs6_H
  have stH:=st_blk (P:=Tryz.prog) hbH hl2 hone2
  have hlkC:C2.length=kc:=by rw [hl2];exact hk22.out
  have hl3:L2.length=22:=by rw [hL2.out];rfl
  have hlkL:L2.length=kc:=by rw [hl3];exact hk22.out
  have hbH1:=(hbH.setRow C2).cel
  have hG7:=(hG.gr hg6).row_other (show G≠H by omega) C2.toArray
  have hg7:=(hgx.trans hg6).setRow (g:=H) (by omega) C2.toArray
  have ldG:=ld_cel (P:=Tryz.prog) hlkL hG7
  have ldH:=ld_cel (P:=Tryz.prog) hlkC hbH1
  have hH0:=hbH1.lt
  have hH1:=(hbH1.2 0 _ z2).1
  have hGl:=hG7.lt
  replace hC2:=Lib.hid hC2
  clear hG y y2 y3 y4 y6 y7 hbx hgl hb6_H hs6_H hbH hG7 hbH1 hS2
  rcases hc1.out with ⟨e0,hRR⟩ | ⟨e0,hRR⟩
  ·have q:((x.t - x.f - x.fr) == 0)=true:=by simp [e0]
   replace hRR:=Lib.hid hRR
   replace e0:=Lib.hid e0
   go_upto_region 9 with fail
   rename (22=kc)=>h22
   clear h22
   go_wp2_with (refine wpList_bs1 rfl 27 61 (.tmp 69) rfl 22 (by kernel_rfl) (by kernel_rfl) (by omega) (by omega) L2 hl3 rfl ?_)
   go_ret
   refine⟨_,rfl,hg7.alloc _,?_⟩
   rw [hRR.out]
   refine⟨?_,fun c hc=>?_⟩
   ·have:=Rd.new (w6.setRow H C2.toArray) L2.toArray 61 1 22 1 (by simpa using hl3)
    rw [hL2.out] at this ⊢
    simpa [cflat] using this
   ·rw [List.mem_singleton.1 hc]
    exact cm0_ch _ rfl
  ·have q:((x.t - x.f - x.fr) == 0)=false:=by simp [e0]
   replace hRR:=Lib.hid hRR
   replace e0:=Lib.hid e0
   go_upto_region 10 with fail
   rename (22=kc)=>h22
   clear h22
   go_wp2_with (refine wpList_bs2 rfl 27 61 (.tmp 71) (.tmp 72) rfl 22 (by kernel_rfl) (by kernel_rfl) (by omega) (by omega) L2 C2 hl3 hl2 rfl rfl ?_)
   go_ret
   refine⟨_,rfl,hg7.alloc _,?_⟩
   rw [hRR.out]
   refine⟨?_,fun c hc=>?_⟩
   ·have:=Rd.new (w6.setRow H C2.toArray) (L2 ++ C2).toArray 61 2 22 2 (by simp [hl3,hl2])
    rw [hL2.out,← hC2.out] at this ⊢
    simpa [cflat] using this
   ·rcases List.mem_cons.1 hc with rfl | hc
    ·exact cm0_ch _ rfl
    ·rw [List.mem_singleton.1 hc]
     exact cm0_ch _ rfl
end Go.Proofs.YtnginfangeikpaaGreatDoor
