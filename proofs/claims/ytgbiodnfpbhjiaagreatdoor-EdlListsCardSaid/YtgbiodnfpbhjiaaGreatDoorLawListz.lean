/-
  Walk of the law EdlLists.
  Conditions: the track given and the numbers lie in memory; the table of powers is laid.
-/
import Derived.Test.YtgbiodnfpbhjiaaGreatDoorWalkRz
import Derived.Test.YtgbiodnfpbhjiaaGreatDoorWalkFg
import Derived.Test.YtgbiodnfpbhjiaaGreatDoorWalkEx
import Derived.Test.YtgbiodnfpbhjiaaGreatDoorLawTracks
import Derived.Test.YtgbiodnfpbhjiaaGreatDoorWalkOfS
namespace Go.Proofs.YtgbiodnfpbhjiaaGreatDoor
open Go.RowKit Go.Lib
set_option linter.unusedSimpArgs false
set_option linter.unusedVariables false
theorem TrR.pre2 {w:World} {a:Option Addr} {cap:Nat} {cs:List CM} (h:TrR w (.slice a cs.length cap) cs) (m:Nat) (hm:m≤cs.length) (h0:0<m) (c2:Nat):TrR w (.slice a m c2) (cs.take m):=by
 have hl:(cs.take m).length=m:=by simp [hm]
 refine⟨?_,fun c hc=>h.ch c (List.mem_of_mem_take hc)⟩
 obtain⟨_,a',cap',e,h0' | ⟨b,o,rfl,hb,hc⟩⟩:=h.rd
 ·omega
 ·injection e with e1 e2 e3
  subst e1
  rw [hl]
  refine⟨by rw [cflat_length,hl],_,c2,rfl,.inr ⟨b,o,rfl,hb,fun j u hj=>hc j u ?_⟩⟩
  have hj2:j<m * 22:=by
   have:=(List.getElem?_eq_some_iff.1 hj).1
   rwa [cflat_length,hl] at this
  have hi:j / 22<m:=by omega
  have hj8:j % 22<22:=Nat.mod_lt _ (by omega)
  have he:j=j / 22 * 22+j % 22:=by omega
  rw [he] at hj ⊢
  rw [cflat_at _ (j / 22) (by omega) (j % 22) hj8] at hj
  rw [cflat_at cs (j / 22) (by omega) (j % 22) hj8]
  simpa using hj
theorem fmtrack_cm (a:Option Addr) (cap:Nat) (xs:List Int) (w:World) (hA:TapeArg w a cap xs) :
  Calls Tryz.prog 19 #[.slice a xs.length cap] w fun e w'=>∃ (v:Value) (ts:List CM),e=.returned v∧Gr w w'∧TrR w' v ts∧(∀ c∈ts,ClOk c.c)∧ts.length≤20∧∀ W,∀ c∈ts,ChR W c:=by
 have hT:=hA.box 70
 have hTr:=Lib.hid (ttrack_any w.heap.size a cap xs 0 _ hT (by omega))
 clear hT hA
 go_enter Tryz.func19,Tryz.ntmps19
 go_wp2_with (go_at_call 48;(with_reducible refine hTr.out.mono ?_);rintro e w2 ⟨v,L,rfl,hB,hown,hl,hok⟩)
 go_ret
 have hgA:Gr w (w.alloc (.cells #[.slice a xs.length cap,.int .i64 0] 70)):=(Gr.refl w).alloc _
 refine⟨_,L.map cm0,rfl,Gr.grown hgA hB (fun k hk=>by injection hk with hk;omega),⟨?_,cm0_list (fun c hc=>(hok c hc).2) _⟩,fun c hc=>?_,by simpa using hl,fun W=>cm0_list (fun c hc=>(hok c hc).2) W⟩
 ·have:=Rd.own hown
  rwa [← List.length_map (f:=cm0)] at this
 ·obtain⟨d,hd,rfl⟩:=List.mem_map.1 hc
  exact (hok d hd).1
theorem cflat_one2 {w:World} {cs:List CM} (h:∀ c∈cs,ChR w c):∀ u∈cflat cs,u.oneCell'=true:=fun u hu=>by
 unfold cflat at hu
 obtain⟨c,hc1,hc2⟩:=List.mem_flatMap.1 hu
 exact (h c hc1).one u hc2
theorem own_empty2 (w:World) (e:TypeId) (size:Nat):(w.alloc (.cells #[] e)).ownsRow w.heap.size e size (.slice (some ⟨w.heap.size,0,none⟩) 0 0) 0 []:=by
 refine⟨by simp,.inr ⟨w.heap.size,0,#[],rfl,Nat.le_refl _,?_,Nat.le_refl _,by decide,by simp,by simp⟩⟩
 exact Blk.new w [] e
theorem made_trk (mt:ByteArray) (mb:Int) (md:Bool) (mevs:List Ev) (lv:Value) (w:World) (h:ElR w lv ⟨mt,mb,md,mevs⟩) (hv:vEl ⟨mt,mb,md,mevs⟩=true) (hl:(trkL mevs).length≤64) (hcp:∀ a n c,lv=.slice a n c→n≤c) :
  Calls Tryz.prog 16 #[.agg #[.string mt,.int .i64 mb,.bool md,lv]] w fun e w''=>∃ ta ts tc,e=.returned (.tuple #[.slice ta ts.length tc,.int .i64 0])∧Gr w w''∧TrR w'' (.slice ta ts.length tc) ts∧(∀ c∈ts,ClOk c.c)∧ts.length≤64:=by
 refine (etrack_any ⟨mt,mb,md,mevs⟩ lv w h hcp).mono ?_
 rintro e w'' ⟨v',E,rfl,hg,hP⟩
 rcases hP with ⟨h1,_⟩ | ⟨_,h2,_⟩ | ⟨_,_,rfl,ts,h4,h5⟩
 ·rw [hv] at h1;cases h1
 ·have h2:64<(trkL mevs).length:=h2
  omega
 ·obtain⟨ta,tc,rfl,-⟩:=h4.shape
  obtain⟨o1,o2,o3,o4⟩:=vEl_parts hv
  obtain⟨d0,d1⟩:=day_bounds o1
  have hvc:=(trkL_vc d0 d1 o4).1
  refine⟨ta,ts,tc,rfl,hg,h4,fun c hc=>(hvc _ ?_).ok,?_⟩
  ·have h5:ts.map CM.c=trkL mevs:=h5
   rw [← h5];exact List.mem_map.2 ⟨c,hc,rfl⟩
  ·have h5:ts.map CM.c=trkL mevs:=h5
   rw [← List.length_map (f:=CM.c),h5];exact hl
inductive K_lawLists_core:Type where
 | mk
structure C_lawLists_core (M:Prop) where
 LR:Prop
 h:(K_lawLists_core→LR)→M
set_option maxRecDepth 20000 in
set_option maxHeartbeats 8000000 in
noncomputable def lawLists_coreDef:C_lawLists_core ((∀ (a:Option Addr) (cap:Nat) (xs:List Int) (raw:List CM) (rv:Value) (title:ByteArray) (base:Int) (drop:Bool) (w:World) (hraw:TrR w rv raw) (hok:∀ c∈raw,ClOk c.c) (hcp:∀ a n c,rv=.slice a n c→n≤c)
  (HF:Hid (∀ w0,Gr w w0→Calls Tryz.prog 19 #[.slice a xs.length cap] w0 fun e w'=>∃ (v:Value) (ts:List CM),e=.returned v∧Gr w0 w'∧TrR w' v ts∧(∀ c∈ts,ClOk c.c)∧ts.length≤20∧∀ W,∀ c∈ts,ChR W c))
  (HM:Hid (∀ w0,Gr w w0→Calls Tryz.prog 12 #[.slice a xs.length cap] w0 fun e w'=>∃ l lv,e=.returned (El.val l lv)∧Gr w0 w'∧ElR w' lv l∧vEl l=true∧(trkL l.evs).length≤64∧(∀ a n c,lv=.slice a n c→n≤c)))
  (HO:Hid (∀ (v:Value) (ts:List CM) (s:ByteArray) (b:Int) (d:Bool) (w':World),TrR w' v ts→(∀ c∈ts,ClOk c.c)→(s=title∨s=⟨#[84]⟩)→Calls Tryz.prog 20 #[v,.string s,.int .i64 b,.bool d] w' fun e w''=>∃ (t:ByteArray) (x:Int) (y:Bool) (es:List Ev) (q:Option Addr) (n k:Nat) (E:Int),e=.returned (.tuple #[.agg #[.string t,.int .i64 x,.bool y,.slice q n k],.int .i64 E])∧Gr w' w''∧ElR w'' (.slice q n k) ⟨t,x,y,es⟩∧OfP (ts.map CM.c) s b d ⟨t,x,y,es⟩ E))
  (HR:Hid (∀ (v:Value) (ts:List CM) (s:ByteArray) (b:Int) (d:Bool) (w':World),TrR w' v ts→(∀ c∈ts,ClOk c.c)→(s=title∨s=⟨#[84]⟩)→Calls Tryz.prog 21 #[v,.string s,.int .i64 b,.bool d] w' fun e w''=>∃ (t:ByteArray) (x:Int) (y:Bool) (es:List Ev) (q:Option Addr) (n k:Nat) (E:Int),e=.returned (.tuple #[.agg #[.string t,.int .i64 x,.bool y,.slice q n k],.int .i64 E])∧Gr w' w''∧ElR w'' (.slice q n k) ⟨t,x,y,es⟩∧OfP (ts.map CM.c) s b d ⟨t,x,y,es⟩ E))
  (HW:Hid (∀ w',Gr w w'→Calls Tryz.prog 15 #[] w' fun e w''=>e=.returned (.bool true)∧Gr w' w'')),Calls Tryz.prog 5 #[rv,.slice a xs.length cap,.string title,.int .i64 base,.bool drop] w fun e w'=>e=.returned (.bool true)∧Gr w w')):=by
 apply C_lawLists_core.mk
 case h=>
  intro qLeafR
  intro a cap xs raw rv title base drop w hraw hok hcp HF HM HO HR HW
  have HS:Hid (∀ (t:ByteArray) (x:Int) (y:Bool) (es:List Ev) (q q':Option Addr) (n n' k k':Nat) (w':World),ElR w' (.slice q n k) ⟨t,x,y,es⟩→ElR w' (.slice q' n' k') ⟨t,x,y,es⟩→Calls Tryz.prog 22 #[.agg #[.string t,.int .i64 x,.bool y,.slice q n k],.agg #[.string t,.int .i64 x,.bool y,.slice q' n' k']] w' fun e w''=>e=.returned (.bool true)∧Gr w' w''):=Lib.hid fun t x y es q q' n n' k k' w' h h'=>rsame_true ⟨t,x,y,es⟩ _ _ w' h h'
  obtain⟨ra,rcp,rfl,-⟩:=hraw.shape
  obtain⟨cs0,v0,hv0,hR0,hok0,hl0⟩:∃ (cs0:List CM) (v0:Value),(v0=if 80<raw.length then .slice ra 80 rcp else .slice ra raw.length rcp)∧TrR w v0 cs0∧(∀ c∈cs0,ClOk c.c)∧cs0.length≤80:=by
   by_cases h:80<raw.length
   ·exact⟨raw.take 80,_,rfl,by rw [if_pos h];exact hraw.pre2 80 (by omega) (by omega) _,fun c hc=>hok c (List.mem_of_mem_take hc),by rw [List.length_take];omega⟩
   ·exact⟨raw,_,rfl,by rw [if_neg h];exact hraw,hok,by omega⟩
  have hcp':=hcp _ _ _ rfl
  have hsh:=hraw.shape
  clear hok hcp hraw
  obtain⟨pa,pc,rfl,-⟩:=hR0.shape
  go_enter Tryz.func5,Tryz.ntmps5
  go_upto_if 25 with fail
  go_cut [0] (fun tv wx=>tv=.slice pa cs0.length pc∧wx=w)
  case first=>
   rcases hsh with ⟨a',cap',e,hsh⟩
   injection e with e1 e2 e3
   subst e1 e3
   by_cases h:80<raw.length
   ·rw [if_pos h] at hv0
    have q1:decide ((80:Int)<(raw.length:Int))=true:=decide_eq_true (by omega)
    rcases hsh with h0 | ⟨b,o,rfl,-,-⟩
    ·omega
    go_wp2
    go_meet
    exact⟨hv0.symm,rfl⟩
   ·rw [if_neg h] at hv0
    have q1:decide ((80:Int)<(raw.length:Int))=false:=decide_eq_false (by omega)
    go_wp2
    go_meet
    exact⟨hv0.symm,rfl⟩
  case rest=>
   repeat (rename _=>hZz;revert hZz)
   intro hZz
   exact hZz .mk
structure C_lawLists_coreR (M:Prop) where
 LT:Prop
 LU:Prop
 h:(K_lawLists_core→LT)→(K_lawLists_core→LU)→M
set_option maxRecDepth 20000 in
set_option maxHeartbeats 8000000 in
noncomputable def lawLists_coreRDef:C_lawLists_coreR (lawLists_coreDef.LR):=by
  apply C_lawLists_coreR.mk
  case h=>
   intro qLeafT qLeafU
   iterate 8 intro _
   intro HF HM
   iterate 6 intro _
   intro cs0 hok0 hl0 hcp' hsh pa pc hv0 hR0
   iterate 76 intro _
   intro hcut
   obtain⟨rfl,rfl⟩:=hcut
   clear hv0 hsh hcp'
   go_upto_region 4 with (first
    | (go_at_call 12;(with_reducible refine (HM.out _ (Gr.refl _)).mono ?_);rintro e w2 ⟨⟨mt,mb,md,mevs⟩,lv,rfl,hg2,hml,hv,hl64,hmc⟩;unfold El.val;simp only at hml hv hl64 hmc;have HT1:Hid (Calls Tryz.prog 16 #[.agg #[.string mt,.int .i64 mb,.bool md,lv]] w2 fun e w''=>∃ ta ts tc,e=.returned (.tuple #[.slice ta ts.length tc,.int .i64 0])∧Gr w2 w''∧TrR w'' (.slice ta ts.length tc) ts∧(∀ c∈ts,ClOk c.c)∧ts.length≤64):=Lib.hid (made_trk mt mb md mevs lv w2 hml hv hl64 hmc))
    | (go_at_call 16;(with_reducible refine HT1.out.mono ?_);rintro e w3 ⟨ta,ts1,tc,rfl,hg3,hT3,hok3,hl3⟩))
   have hgw:=hg2.trans hg3
   clear HM HT1 hg2 hml hv hl64 hmc
   go_upto_region 6 with fail
   obtain⟨ic,hic,hic0,hic1,hic2⟩:=info_parts infoClip3
   obtain⟨n1,hn1⟩:∃ n,ts1.length=n:=⟨_,rfl⟩
   rw [hn1] at hT3 hl3 ⊢
   replace hn1:=Lib.hid hn1
   have hone1:=cflat_one2 hT3.ch
   go_upto_region 7 with (first
    | (go_at_call 19;(with_reducible refine (HF.out _ hgw).mono ?_);rintro e w4 ⟨v4,ts4,rfl,hg4,hR4,hok4,hl4,-⟩;obtain⟨pa4,pc4,rfl,-⟩:=hR4.shape;have hgA:=hg4.alloc (.cells #[] 81);have hTA:=hT3.gr hgA;have hown0:=own_empty2 w4 81 22;have hrd1:Rd (w4.alloc (.cells #[] 81)) (.slice ta n1 tc) n1 22 (cflat ts1):=(by rw [← hn1.out] at hTA ⊢;exact hTA.rd))
    | (at_builtin;go_loud (refine wpList_append_rd rfl (.tmp 40) (.tmp 41) 35 rfl w4.heap.size 81 ic (.agg #[.int .i64 0,.int .i64 0,.int .i64 0,.string ⟨#[]⟩,.int .i64 0,.int .i64 0,.int .i64 0,.int .i64 0,.bool false,.int .i64 0,.string ⟨#[]⟩,.int .i64 0,.int .i64 0,.int .i64 0,.int .i64 0,.bool false,.int .i64 0,.int .i64 0,.int .i64 0,.string ⟨#[]⟩,.int .i64 0,.slice none 0 0]) 22 216 (by as_aux_lemma=>kernel_rfl) hic hic0 hic1 hic2 rfl (by decide) (.slice (some ⟨w4.heap.size,0,none⟩) 0 0) 0 [] rfl hown0 _ n1 (cflat ts1) rfl hrd1 hone1 ?_ ?_ ?_ ?_);(· unfold maxLen;omega);(· omega);(· simp);intro v6 w6 hown6 hgrow6;(rw [Nat.zero_add,List.nil_append] at hown6);obtain⟨p6,c6,rfl⟩:=own_shape hown6;have hg46:Gr w4 w6:=((Gr.refl w4).alloc _).grown hgrow6 (fun k hk=>(by simp [Value.ownBlock] at hk;omega));have hgw6:=(hgw.trans hg4).trans hg46)
    | (go_at_call 19;(with_reducible refine (HF.out _ hgw6).mono ?_);rintro e w7 ⟨v7,ts7,rfl,hg7,hR7,hok7,hl7,hch7⟩;obtain⟨pa7,pc7,rfl,-⟩:=hR7.shape;have hown7:=row_gr hown6 hg7;have hone7:=cflat_one2 hR7.ch;have hrd7:=hR7.rd;have hz7:w4.heap.size≤w7.heap.size:=(hg46.trans hg7).size)
    | (at_builtin;go_loud (refine wpList_append_rd rfl (.tmp 42) (.tmp 44) 35 rfl w4.heap.size 81 ic (.agg #[.int .i64 0,.int .i64 0,.int .i64 0,.string ⟨#[]⟩,.int .i64 0,.int .i64 0,.int .i64 0,.int .i64 0,.bool false,.int .i64 0,.string ⟨#[]⟩,.int .i64 0,.int .i64 0,.int .i64 0,.int .i64 0,.bool false,.int .i64 0,.int .i64 0,.int .i64 0,.string ⟨#[]⟩,.int .i64 0,.slice none 0 0]) 22 216 (by as_aux_lemma=>kernel_rfl) hic hic0 hic1 hic2 rfl (by decide) (.slice p6 n1 c6) n1 (cflat ts1) rfl hown7 _ ts7.length (cflat ts7) rfl hrd7 hone7 ?_ ?_ ?_ ?_);(· unfold maxLen;omega);(· omega);(· exact hz7);intro v8 w8 hown8 hgrow8;obtain⟨p8,c8,rfl⟩:=own_shape hown8;have hg48:Gr w4 w8:=(hg46.trans hg7).grown hgrow8 (own_ge hown7)))
   have hgn:Gr w8 (w8.alloc (.cells #[.slice pa cs0.length pc,.slice ta n1 tc,.slice pa4 ts4.length pc4,.slice p8 (n1+ts7.length) c8] 35)):=(Gr.refl w8).alloc _
   have hbx:=Cel.new w8 #[.slice pa cs0.length pc,.slice ta n1 tc,.slice pa4 ts4.length pc4,.slice p8 (n1+ts7.length) c8] 35
   have hgW:=(hgw.trans (hg4.trans hg48)).trans hgn
   have hR8:TrR w8 (.slice p8 (n1+ts7.length) c8) (ts1 ++ ts7):=by
    refine⟨?_,fun c hc=>?_⟩
    ·rw [cflat_append,List.length_append,hn1.out]
     exact Rd.own hown8
    ·rcases List.mem_append.1 hc with h | h
     ·exact (hT3.ch c h).gr (hg4.trans hg48)
     ·exact hch7 _ c h
   obtain⟨W3,hW3⟩:∃ W3,w8.alloc (.cells #[.slice pa cs0.length pc,.slice ta n1 tc,.slice pa4 ts4.length pc4,.slice p8 (n1+ts7.length) c8] 35)=W3:=⟨_,rfl⟩
   rw [hW3] at hbx hgn hgW ⊢
   have HL:∀ j:Nat,j<4→∃ (cs:List CM) (qa:Option Addr) (qn qc:Nat),W3.cell? ⟨w8.heap.size,j,none⟩=some (.slice qa qn qc)∧TrR W3 (.slice qa qn qc) cs∧∀ c∈cs,ClOk c.c:=by
    intro j hj
    rcases (show j=0∨j=1∨j=2∨j=3 by omega) with rfl | rfl | rfl | rfl
    ·exact⟨cs0,pa,_,pc,(hbx.2 0 _ rfl).1,hR0.gr hgW,hok0⟩
    ·exact⟨ts1,ta,_,tc,(hbx.2 1 _ rfl).1,hT3.gr ((hg4.trans hg48).trans hgn),hok3⟩
    ·exact⟨ts4,pa4,_,pc4,(hbx.2 2 _ rfl).1,hR4.gr (hg48.trans hgn),hok4⟩
    ·refine⟨ts1 ++ ts7,p8,_,c8,(hbx.2 3 _ rfl).1,hR8.gr hgn,fun c hc=>?_⟩
     rcases List.mem_append.1 hc with h | h
     ·exact hok3 c h
     ·exact hok7 c h
   have hBl:=hbx.lt
   obtain⟨Bk,hBk⟩:∃ Bk,w8.heap.size=Bk:=⟨_,rfl⟩
   rw [hBk] at HL hBl ⊢
   replace HL:=Lib.hid HL
   obtain⟨n4,hn4⟩:∃ n,ts4.length=n:=⟨_,rfl⟩
   obtain⟨n7,hn7⟩:∃ n,ts7.length=n:=⟨_,rfl⟩
   rw [hn4,hn7]
   clear hn4 hn7 hbx hgn hR8 hown8 hgrow8 hW3 hBk HF hR0 hok0 hl0 hT3 hok3 hl3 hR4 hok4 hl4 hgA hTA hown0 hrd1 hone1 hown6 hgrow6 hg46 hgw6 hg7 hR7 hok7 hl7 hch7 hown7 hone7 hrd7 hz7 hg48 hg4 hg3 hgw hic hic0 hic1 hic2 hn1
   go_loopw [48] (fun i wr=>∃ j:Nat,j≤4∧i=.int .i64 j∧Gr W3 wr) (fun i _=>4 - (RowKit.intOf i).toNat)
   case atStart=>exact⟨0,by omega,rfl,Gr.refl _⟩
   case round=>
    obtain⟨j,hj,rfl,hg⟩:=hrel
    by_cases c1:j<4
    ·
     clear qLeafU
     repeat (rename _=>hZz;revert hZz)
     intro hZz
     exact hZz .mk
    ·
     clear qLeafT
     repeat (rename _=>hZz;revert hZz)
     intro hZz
     exact hZz .mk
structure C_lawLists_coreT (M:Prop) where
 LV:Prop
 LW:Prop
 h:(K_lawLists_core→LV)→(K_lawLists_core→LW)→M
set_option maxRecDepth 20000 in
set_option maxHeartbeats 8000000 in
noncomputable def lawLists_coreTDef:C_lawLists_coreT (lawLists_coreRDef.LT):=by
    apply C_lawLists_coreT.mk
    case h=>
     intro qLeafV qLeafW
     iterate 4 intro _
     intro title
     iterate 114 intro _
     intro Bk hBl HL _ _ wr
     iterate 61 intro _
     intro j _ hg c1
     have q1:decide ((j:Int)<4)=true:=decide_eq_true (by omega)
     have q1':decide (j<4)=true:=decide_eq_true c1
     obtain⟨cs,qa,qn,qc,z0,hT,hK⟩:=HL.out j c1
     replace z0:=(hg.cells.1 Bk _ hBl).trans z0
     have hx:=Nat.lt_of_lt_of_le hBl hg.size
     have hTr:=hT.gr hg
     clear HL hT
     go_upto_region 10 with fail
     have hgA:=(Gr.refl wr).alloc (.cells #[.string title,.string ⟨#[84]⟩] 9)
     have hSt:=Cel.new wr #[.string title,.string ⟨#[84]⟩] 9
     have hgB:=hg.trans hgA
     have hTr5:=hTr.gr hgA
     obtain⟨W5,hW5⟩:∃ W5,wr.alloc (.cells #[.string title,.string ⟨#[84]⟩] 9)=W5:=⟨_,rfl⟩
     rw [hW5] at hSt hgB hTr5 hgA ⊢
     obtain⟨SB,hSB⟩:∃ SB,wr.heap.size=SB:=⟨_,rfl⟩
     rw [hSB] at hSt ⊢
     have hSl:=hSt.lt
     have HLs:∀ m:Nat,m<2→∃ s:ByteArray,W5.cell? ⟨SB,m,none⟩=some (.string s)∧(s=title∨s=⟨#[84]⟩):=by
      intro m hm
      rcases (show m=0∨m=1 by omega) with rfl | rfl
      ·exact⟨title,(hSt.2 0 _ rfl).1,.inl rfl⟩
      ·exact⟨_,(hSt.2 1 _ rfl).1,.inr rfl⟩
     replace HLs:=Lib.hid HLs
     clear hSt hTr hx z0 hW5 hSB hg hgA
     go_loopw [55] (fun i wx=>∃ m:Nat,m≤2∧i=.int .i64 m∧Gr W5 wx) (fun i _=>2 - (RowKit.intOf i).toNat)
     case atStart=>exact⟨0,by omega,rfl,Gr.refl _⟩
     case round=>
      obtain⟨m,hm,rfl,hg5⟩:=hrel
      by_cases c2:m<2
      ·
       clear qLeafW
       repeat (rename _=>hZz;revert hZz)
       intro hZz
       exact hZz .mk
      ·
       clear qLeafV
       repeat (rename _=>hZz;revert hZz)
       intro hZz
       exact hZz .mk
structure C_lawLists_coreV (M:Prop) where
 LX:Prop
 LY:Prop
 h:(K_lawLists_core→LX)→(K_lawLists_core→LY)→M
set_option maxRecDepth 20000 in
set_option maxHeartbeats 8000000 in
noncomputable def lawLists_coreVDef:C_lawLists_coreV (lawLists_coreTDef.LV):=by
      apply C_lawLists_coreV.mk
      case h=>
       intro qLeafX qLeafY
       iterate 5 intro _
       intro base
       iterate 193 intro _
       intro hTr5 _ SB hSl HLs wr
       iterate 52 intro _
       intro m _ hg5 c2
       have q2:decide ((m:Int)<2)=true:=decide_eq_true (by omega)
       have q2':decide (m<2)=true:=decide_eq_true c2
       obtain⟨s,z0,hs⟩:=HLs.out m c2
       replace z0:=(hg5.cells.1 SB _ hSl).trans z0
       have hx:=Nat.lt_of_lt_of_le hSl hg5.size
       have hTr:=hTr5.gr hg5
       clear HLs hTr5
       go_upto_region 13 with fail
       have hgA:=(Gr.refl wr).alloc (.cells #[.int .i64 base,.int .i64 25] 3)
       have hIt:=Cel.new wr #[.int .i64 base,.int .i64 25] 3
       have hg6:=hg5.trans hgA
       have hTr6:=hTr.gr hgA
       obtain⟨W6,hW6⟩:∃ W6,wr.alloc (.cells #[.int .i64 base,.int .i64 25] 3)=W6:=⟨_,rfl⟩
       rw [hW6] at hIt hg6 hTr6 hgA ⊢
       obtain⟨IB,hIB⟩:∃ IB,wr.heap.size=IB:=⟨_,rfl⟩
       rw [hIB] at hIt ⊢
       have hIl:=hIt.lt
       have HLi:∀ l:Nat,l<2→∃ k:Int,W6.cell? ⟨IB,l,none⟩=some (.int .i64 k):=by
        intro l hl
        rcases (show l=0∨l=1 by omega) with rfl | rfl
        ·exact⟨base,(hIt.2 0 _ rfl).1⟩
        ·exact⟨25,(hIt.2 1 _ rfl).1⟩
       replace HLi:=Lib.hid HLi
       clear hIt hTr hx z0 hW6 hIB hg5 hgA
       go_loopw [62] (fun i wx=>∃ l:Nat,l≤2∧i=.int .i64 l∧Gr W6 wx) (fun i _=>2 - (RowKit.intOf i).toNat)
       case atStart=>exact⟨0,by omega,rfl,Gr.refl _⟩
       case round=>
        obtain⟨l,hl,rfl,hg7⟩:=hrel
        by_cases c3:l<2
        ·
         clear qLeafY
         repeat (rename _=>hZz;revert hZz)
         intro hZz
         exact hZz .mk
        ·
         clear qLeafX
         repeat (rename _=>hZz;revert hZz)
         intro hZz
         exact hZz .mk
set_option maxRecDepth 20000 in
set_option maxHeartbeats 8000000 in
theorem lawLists_coreX:lawLists_coreVDef.LX:=by
        iterate 6 intro _
        intro drop HO HR HS
        iterate 79 intro _
        intro w2
        iterate 5 intro _
        intro w3
        iterate 98 intro _
        intro hK
        iterate 63 intro _
        intro q2 _ _ hs
        iterate 4 intro _
        intro hTr6 _ IB hIl HLi
        iterate 44 intro _
        intro l _ hg7 c3
        have q3:decide ((l:Int)<2)=true:=decide_eq_true (by omega)
        have q3':decide (l<2)=true:=decide_eq_true c3
        obtain⟨k,z0⟩:=HLi.out l c3
        replace z0:=(hg7.cells.1 IB _ hIl).trans z0
        have hx:=Nat.lt_of_lt_of_le hIl hg7.size
        have hTr:=hTr6.gr hg7
        clear HLi hTr6
        cases drop
        all_goals go_upto_region 16 with (go_at_call 20;(with_reducible refine (HO.out _ _ _ _ _ _ hTr hK hs).mono ?_);rintro e w2 ⟨t,x,y,es,q,n,kc,E,rfl,hg2,hE2,hP2⟩)
        all_goals
         have hgA:=hg2.alloc (.cells #[.string t,.int .i64 x,.bool y,.slice q n kc] 24)
         have hbA:=Cel.new w2 #[.string t,.int .i64 x,.bool y,.slice q n kc] 24
         have hEA:=hE2.gr ((Gr.refl w2).alloc (.cells #[.string t,.int .i64 x,.bool y,.slice q n kc] 24))
         have hTrA:=hTr.gr hgA
         obtain⟨W8,hW8⟩:∃ W8,w2.alloc (.cells #[.string t,.int .i64 x,.bool y,.slice q n kc] 24)=W8:=⟨_,rfl⟩
         rw [hW8] at hgA hbA hEA hTrA ⊢
         obtain⟨XA,hXA⟩:∃ XA,w2.heap.size=XA:=⟨_,rfl⟩
         rw [hXA] at hbA ⊢
         have hgr8:=hg7.trans hgA
         clear hW8 hXA hE2 hg2 hTr hx z0 hgA HO
         go_upto_region 17 with (go_at_call 21;(with_reducible refine (HR.out _ _ _ _ _ _ hTrA hK hs).mono ?_);rintro e w3 ⟨t2,x2,y2,es2,q2,n2,kc2,E2,rfl,hg3,hE3,hP3⟩;obtain⟨hEE,hll⟩:=OfP.det hP2 hP3;injection hll with a1 a2 a3 a4;subst hEE a1 a2 a3 a4;clear hP2 hP3)
         have hgB2:=hg3.alloc (.cells #[.string t,.int .i64 x,.bool y,.slice q2 n2 kc2] 24)
         have hbB:=Cel.new w3 #[.string t,.int .i64 x,.bool y,.slice q2 n2 kc2] 24
         have hEB:=hE3.gr ((Gr.refl w3).alloc (.cells #[.string t,.int .i64 x,.bool y,.slice q2 n2 kc2] 24))
         have hEA9:=hEA.gr hgB2
         have hbA9:=hbA.gr hgB2
         obtain⟨W9,hW9⟩:∃ W9,w3.alloc (.cells #[.string t,.int .i64 x,.bool y,.slice q2 n2 kc2] 24)=W9:=⟨_,rfl⟩
         rw [hW9] at hgB2 hbB hEB hEA9 hbA9 ⊢
         have hgr9:=hgr8.trans hgB2
         have HS1:=Lib.hid (HS.out _ _ _ _ _ _ _ _ _ _ _ hEA9 hEB)
         have u:=hbA9.lt
         have u0:=(hbA9.2 0 _ rfl).1
         have u1:=(hbA9.2 1 _ rfl).1
         have u2:=(hbA9.2 2 _ rfl).1
         have u3:=(hbA9.2 3 _ rfl).1
         have r:=hbB.lt
         have r0:=(hbB.2 0 _ rfl).1
         have r1:=(hbB.2 1 _ rfl).1
         have r2:=(hbB.2 2 _ rfl).1
         have r3:=(hbB.2 3 _ rfl).1
         clear hgB2 hbB hEB hEA9 hbA9 hbA hEA hTrA hg3 hE3 hW9 HR HS hgr8
         go_wp2_with (go_at_call 22;(with_reducible refine HS1.out.mono ?_);rintro e w5 ⟨rfl,hg5⟩)
         go_roundw
         case rel=>exact⟨l+1,by omega,by go_num,hgr9.trans hg5⟩
         case measure=>simp [RowKit.intOf];omega
set_option maxRecDepth 20000 in
set_option maxHeartbeats 8000000 in
theorem lawLists_coreY:lawLists_coreVDef.LY:=by
        iterate 7 intro _
        intro HO HR HS
        iterate 245 intro _
        intro m
        iterate 11 intro _
        intro hg6 _ _ HLi
        iterate 44 intro _
        intro l _ hg7 c3
        have q3:decide ((l:Int)<2)=false:=decide_eq_false (by omega)
        have q3':decide (l<2)=false:=decide_eq_false c3
        clear HLi HO HR HS
        go_wp2
        go_roundw
        case rel=>exact⟨m+1,by omega,by go_num,hg6.trans hg7⟩
        case measure=>simp [RowKit.intOf];omega
set_option maxRecDepth 20000 in
set_option maxHeartbeats 8000000 in
theorem lawLists_coreW:lawLists_coreTDef.LW:=by
      iterate 7 intro _
      intro HO HR HS
      iterate 175 intro _
      intro j
      iterate 14 intro _
      intro hgB _ _ HLs
      iterate 53 intro _
      intro m _ hg5 c2
      have q2:decide ((m:Int)<2)=false:=decide_eq_false (by omega)
      have q2':decide (m<2)=false:=decide_eq_false c2
      clear HLs HO HR HS
      go_wp2
      go_roundw
      case rel=>exact⟨j+1,by omega,by go_num,hgB.trans hg5⟩
      case measure=>simp [RowKit.intOf];omega
set_option maxRecDepth 20000 in
set_option maxHeartbeats 8000000 in
theorem lawLists_coreU:lawLists_coreRDef.LU:=by
    iterate 7 intro _
    intro HO HR HS
    iterate 77 intro _
    intro HW
    iterate 30 intro _
    intro hgW _ _ HL
    iterate 64 intro _
    intro j _ hg c1
    have q1:decide ((j:Int)<4)=false:=decide_eq_false (by omega)
    have q1':decide (j<4)=false:=decide_eq_false c1
    clear HO HR HS HL
    go_wp2_with (go_at_call 15;(with_reducible refine (HW.out _ (hgW.trans hg)).mono ?_);rintro e w9 ⟨rfl,hg9⟩)
    go_ret
    exact⟨rfl,(hgW.trans hg).trans hg9⟩
set_option maxRecDepth 20000 in
set_option maxHeartbeats 8000000 in
theorem lawLists_coreV:lawLists_coreTDef.LV:=lawLists_coreVDef.h (fun _=>lawLists_coreX) (fun _=>lawLists_coreY)
theorem lawLists_coreT:lawLists_coreRDef.LT:=lawLists_coreTDef.h (fun _=>lawLists_coreV) (fun _=>lawLists_coreW)
theorem lawLists_coreR:lawLists_coreDef.LR:=lawLists_coreRDef.h (fun _=>lawLists_coreT) (fun _=>lawLists_coreU)
theorem lawLists_core (a:Option Addr) (cap:Nat) (xs:List Int) (raw:List CM) (rv:Value) (title:ByteArray) (base:Int) (drop:Bool) (w:World) (hraw:TrR w rv raw) (hok:∀ c∈raw,ClOk c.c) (hcp:∀ a n c,rv=.slice a n c→n≤c)
  (HF:Hid (∀ w0,Gr w w0→Calls Tryz.prog 19 #[.slice a xs.length cap] w0 fun e w'=>∃ (v:Value) (ts:List CM),e=.returned v∧Gr w0 w'∧TrR w' v ts∧(∀ c∈ts,ClOk c.c)∧ts.length≤20∧∀ W,∀ c∈ts,ChR W c))
  (HM:Hid (∀ w0,Gr w w0→Calls Tryz.prog 12 #[.slice a xs.length cap] w0 fun e w'=>∃ l lv,e=.returned (El.val l lv)∧Gr w0 w'∧ElR w' lv l∧vEl l=true∧(trkL l.evs).length≤64∧(∀ a n c,lv=.slice a n c→n≤c)))
  (HO:Hid (∀ (v:Value) (ts:List CM) (s:ByteArray) (b:Int) (d:Bool) (w':World),TrR w' v ts→(∀ c∈ts,ClOk c.c)→(s=title∨s=⟨#[84]⟩)→Calls Tryz.prog 20 #[v,.string s,.int .i64 b,.bool d] w' fun e w''=>∃ (t:ByteArray) (x:Int) (y:Bool) (es:List Ev) (q:Option Addr) (n k:Nat) (E:Int),e=.returned (.tuple #[.agg #[.string t,.int .i64 x,.bool y,.slice q n k],.int .i64 E])∧Gr w' w''∧ElR w'' (.slice q n k) ⟨t,x,y,es⟩∧OfP (ts.map CM.c) s b d ⟨t,x,y,es⟩ E))
  (HR:Hid (∀ (v:Value) (ts:List CM) (s:ByteArray) (b:Int) (d:Bool) (w':World),TrR w' v ts→(∀ c∈ts,ClOk c.c)→(s=title∨s=⟨#[84]⟩)→Calls Tryz.prog 21 #[v,.string s,.int .i64 b,.bool d] w' fun e w''=>∃ (t:ByteArray) (x:Int) (y:Bool) (es:List Ev) (q:Option Addr) (n k:Nat) (E:Int),e=.returned (.tuple #[.agg #[.string t,.int .i64 x,.bool y,.slice q n k],.int .i64 E])∧Gr w' w''∧ElR w'' (.slice q n k) ⟨t,x,y,es⟩∧OfP (ts.map CM.c) s b d ⟨t,x,y,es⟩ E))
  (HW:Hid (∀ w',Gr w w'→Calls Tryz.prog 15 #[] w' fun e w''=>e=.returned (.bool true)∧Gr w' w'')) :
  Calls Tryz.prog 5 #[rv,.slice a xs.length cap,.string title,.int .i64 base,.bool drop] w fun e w'=>e=.returned (.bool true)∧Gr w w':=lawLists_coreDef.h (fun _=>lawLists_coreR) a cap xs raw rv title base drop w hraw hok hcp HF HM HO HR HW
theorem made_len2 {l:El} (h:MadeE l):(trkL l.evs).length≤64:=by
 have h1:=trk_len (l:=l.evs) (n:=0) (bf:=blkS)
 have h2:=pk_len (trk 0 blkS l.evs)
 have h3:=h.n
 unfold trkL
 omega
theorem lawLists_walk (a:Option Addr) (cap:Nat) (xs:List Int) (raw:List CM) (rv:Value) (title:ByteArray) (base:Int) (drop:Bool) (w:World) (hraw:TrR w rv raw) (hok:∀ c∈raw,ClOk c.c) (hln:raw.length≤140737488355328) (hcp:∀ a n c,rv=.slice a n c→n≤c) (ht:title.size≤140737488355328) (hA:TapeArg w a cap xs) (hT:Pow w) :
  Calls Tryz.prog 5 #[rv,.slice a xs.length cap,.string title,.int .i64 base,.bool drop] w fun e w'=>e=.returned (.bool true)∧Gr w w':=by
 have hts:∀ s:ByteArray,(s=title∨s=⟨#[84]⟩)→s.size≤140737488355328:=by
  rintro s (rfl | rfl)
  ·exact ht
  ·decide
 refine lawLists_core a cap xs raw rv title base drop w hraw hok hcp (Lib.hid fun w0 hg=>fmtrack_cm a cap xs w0 (hA.gr hg)) (Lib.hid fun w0 hg=>?_) (Lib.hid fun v ts s b d w' h hts2 hs=>?_) (Lib.hid fun v ts s b d w' h hts2 hs=>?_) (Lib.hid fun w' hg=>eawake_any w' (Pow.gr hg hT))
 ·refine (emade_any a cap xs w0 (hA.gr hg)).mono ?_
  rintro e w' ⟨l,v,bs,rfl,hg2,hR,hown,hb,hM⟩
  exact⟨l,v,rfl,hg2,hR,emade_ok hM,made_len2 hM,own_cap hown⟩
 ·refine (eof_any ts v s b d w' h hts2 (hts s hs)).mono ?_
  rintro e w'' ⟨⟨t,x,y,es⟩,lv,E,rfl,hg,hR,hcp,hP⟩
  obtain⟨q,k,hlv,_⟩:=hR.evs.shape
  subst hlv
  exact⟨t,x,y,es,q,es.length,k,E,rfl,hg,hR,hP⟩
 ·refine (rof_any ts v s b d w' h hts2 (hts s hs)).mono ?_
  rintro e w'' ⟨⟨t,x,y,es⟩,lv,E,rfl,hg,hR,hcp,hP⟩
  obtain⟨q,k,hlv,_⟩:=hR.evs.shape
  subst hlv
  exact⟨t,x,y,es,q,es.length,k,E,rfl,hg,hR,hP⟩
end Go.Proofs.YtgbiodnfpbhjiaaGreatDoor
