/-
  Plain law of edit lists: the clips that each event adds; the track of a list, and its normal form.
  Conditions: none.
-/
import Derived.Test.YtnginfangeikpaaGreatDoorClip
import Derived.Test.YtnginfangeikpaaGreatDoorWalkTm
import Derived.Test.YtnginfangeikpaaGreatDoorWalkTv
import Derived.Test.YtnginfangeikpaaGreatDoorWalkUd
import Derived.Test.YtnginfangeikpaaGreatDoorWalkEg
import Derived.Test.YtnginfangeikpaaGreatDoorMathFa
import Derived.Deep.DeepCutAuto
namespace Go.Proofs.YtnginfangeikpaaGreatDoor
set_option linter.unusedVariables false
set_option linter.unusedSimpArgs false
theorem endE_le {day:Int}:∀ {es:List Ev} {n:Int} {e:Ev} {l:List Ev},vEvs day n (es ++ e :: l)=true→endE n es≤e.f
 | [],n,e,l,h=>((vEvs_cons.1 h).1).l
 | x :: es,n,e,l,h=>endE_le (es:=es) (vEvs_cons.1 h).2
theorem vEvs_mid {day:Int}:∀ {es:List Ev} {n:Int} {l:List Ev},vEvs day n (es ++ l)=true→vEvs day n es=true∧vEvs day (endE n es) l=true
 | [],n,l,h=>⟨rfl,h⟩
 | x :: es,n,l,h=>by
  obtain⟨h1,h2⟩:=vEvs_cons.1 h
  obtain⟨h3,h4⟩:=vEvs_mid (es:=es) h2
  exact⟨vEvs_cons.2 ⟨h1,h3⟩,h4⟩
theorem bfR_adds (es:List Ev) (e:Ev) (h:endE 0 es≤e.f) :
  adds (endE 0 es) (bfE blkS es) e=(if endE 0 es<e.f then [gapC (e.f - endE 0 es)] else []) ++ evC (bfR es.reverse e.f) e:=by
 have key:∀ acc:List Ev,endA acc≤e.f→adds (endA acc) (bfA acc) e=(if endA acc<e.f then [gapC (e.f - endA acc)] else []) ++ evC (bfR acc e.f) e:=by
  intro acc ha
  unfold adds
  by_cases hlt:endA acc<e.f
  ·rw [if_pos hlt,if_pos hlt]
   have hb:bfR acc e.f=blkS:=by
    cases acc with
    | nil=>rfl
    | cons x r=>rw [bfR_cons,if_neg (by have:x.t<e.f:=hlt;omega)]
   rw [hb]
   rfl
  ·rw [if_neg hlt,if_neg hlt]
   have hb:bfR acc e.f=bfA acc:=by
    cases acc with
    | nil=>rfl
    | cons x r=>
     have h1:¬ x.t<e.f:=hlt
     have h2:x.t≤e.f:=ha
     rw [bfR_cons,if_pos (by omega)]
     rfl
   rw [hb]
   rfl
 have h1:=endE_rev es.reverse
 have h2:=bfE_rev es.reverse
 rw [List.reverse_reverse] at h1 h2
 rw [h1,h2]
 exact key _ (by rw [← h1];exact h)
def trkL (es:List Ev):List Cl:=pk (trk 0 blkS es)
theorem trkL_snoc (es:List Ev) (e:Ev) (h:endE 0 es≤e.f):trkL (es ++ [e])=pk (trkL es ++ ((if endE 0 es<e.f then [gapC (e.f - endE 0 es)] else []) ++ evC (bfR es.reverse e.f) e)):=by
 unfold trkL
 rw [trk_append,pk_step,← bfR_adds es e h,trk_cons]
 simp [trk]
theorem trkL_mono (a b:List Ev):(trkL a).length≤(trkL (a ++ b)).length:=by
 unfold trkL
 rw [trk_append]
 exact pk_mono _ _
theorem adds_last {e:Ev} {n day m:Int} {bf:Sr} (h:VE e n day):∀ c,(adds m bf e).getLast?=some c→c.kind≠0:=by
 intro c hc
 have h2:∃ b,(evC b e).getLast?=some c:=by
  unfold adds at hc
  split at hc
  ·obtain⟨x,r,hx⟩:=evC_some (bf:=blkS) h
   rw [hx,List.getLast?_cons_cons,← hx] at hc
   exact⟨_,hc⟩
  ·exact⟨_,hc⟩
 obtain⟨b,hb⟩:=h2
 exact evC_kinds h c (List.mem_of_getLast? hb)
theorem trk_last {day:Int}:∀ {l:List Ev} {n:Int} {bf:Sr},vEvs day n l=true→∀ c,(trk n bf l).getLast?=some c→c.kind≠0
 | [],n,bf,_,c,hc=>by simp [trk] at hc
 | e :: l,n,bf,h,c,hc=>by
  obtain⟨h1,h2⟩:=vEvs_cons.1 h
  rw [trk_cons,List.getLast?_append] at hc
  cases hl:(trk e.t (plS e.reel e.o) l).getLast? with
  | some d=>
   rw [hl] at hc
   simp at hc
   subst hc
   exact trk_last h2 d hl
  | none=>
   rw [hl] at hc
   simp at hc
   exact adds_last h1 c hc
theorem cutG_id {l:List Cl} (h:∀ c,l.getLast?=some c→c.kind≠0):cutG l=l:=by
 unfold cutG
 split
 ·rename_i c hc
  rw [if_neg (h c hc)]
 ·rfl
theorem trkL_cut {day:Int} (hd:day≤5184000) {es:List Ev} (h:vEvs day 0 es=true):cutG (trkL es)=trkL es:=by
 refine cutG_id fun c hc=>?_
 unfold trkL at hc
 rw [pk_trk hd h] at hc
 exact trk_last (mgE_valid h) c hc
theorem trkL_vc {day:Int} (hd0:0<day) (hd:day≤5184000) {es:List Ev} (h:vEvs day 0 es=true):(∀ c∈trkL es,VC c)∧0≤tot (trkL es)∧tot (trkL es)≤5184000:=by
 have h1:=trk_valid hd (bf:=blkS) h (Int.le_refl _) (.inl rfl)
 have h2:=trk_tot (bf:=blkS) h
 have h3:=endE_ge h
 have h4:tot (trk 0 blkS es)≤5184000:=by have:=h3.2 hd0;omega
 refine⟨pk_valid h1 (by omega),?_,?_⟩
 ·unfold trkL;rw [pk_tot,h2];omega
 ·unfold trkL;rw [pk_tot];exact h4
theorem trkL_vt {day:Int} (hd0:0<day) (hd:day≤5184000) {es:List Ev} (h:vEvs day 0 es=true) (hl:(trkL es).length≤64):VT (trkL es):=by
 obtain⟨h1,h2,h3⟩:=trkL_vc hd0 hd h
 exact⟨hl,h1,by omega⟩
theorem trkL_norm {day:Int} (hd0:0<day) (hd:day≤5184000) {es:List Ev} (h:vEvs day 0 es=true) (hl:(trkL es).length≤64):nmC (trkL es)=trkL es:=by
 unfold nmC
 rw [(vtB_iff _).2 (trkL_vt hd0 hd h hl),if_pos rfl,show pk (trkL es)=trkL es from pk_idem _]
 exact trkL_cut hd h
theorem next_vt {day n:Int} {bf:Sr} {e:Ev} (h:VE e n day) (h0:0≤n) (hd:day≤5184000) (hb:vSr bf):VT (adds n bf e):=by
 refine⟨?_,adds_valid h h0 hd hb,?_⟩
 ·have:=adds_len e n bf
  omega
 ·rw [adds_tot h]
  have:=h.d
  omega
theorem bfE_valid {day:Int} (hd:day≤5184000):∀ {es:List Ev} {n:Int} {bf:Sr},vEvs day n es=true→0≤n→vSr bf→vSr (bfE bf es)
 | [],n,bf,_,_,hb=>hb
 | e :: es,n,bf,h,h0,hb=>by
  obtain⟨h1,h2⟩:=vEvs_cons.1 h
  exact bfE_valid hd (es:=es) h2 (by have:=h1.l;have:=h1.ft;omega) (h1.after h0 hd)
open Go.RowKit Go.Lib
theorem TrR.put1 {w:World} {v:Value} {cs:List CM} {g:Nat} {T:TypeId} {x u:Value} (h:TrR w v cs) (hb:Blk w g T [x]) (hne:x=u∨∀ y:Int,Value.int .i64 y≠x):TrR (w.setCell ⟨g,0,none⟩ u) v cs:=by
 have hp:w.cell? ⟨g,0,none⟩=some x:=by rw [hb.cell];rfl
 by_cases hv:v.ownBlock=some g
 ·have hnil:cs=[]:=by
   obtain⟨a,cap,rfl,h0 | ⟨b,o,rfl,hlt,hc⟩⟩:=h.shape
   ·exact List.eq_nil_of_length_eq_zero h0
   ·have e:b=g:=by simpa [Value.ownBlock] using hv
    subst e
    cases cs with
    | nil=>rfl
    | cons c cs=>
     have h1:=hc 0 (by simp) 21 c.cv rfl
     rw [hb.cell] at h1
     have:([x]:List Value)[o+0 * 22+21]?=none:=List.getElem?_eq_none (by simp)
     rw [this] at h1
     cases h1
  subst hnil
  obtain⟨⟨h1,a,cap,rfl,h2⟩,h3⟩:=h
  refine⟨⟨h1,a,cap,rfl,?_⟩,fun c hc=>by cases hc⟩
  rcases h2 with h2 | ⟨b,o,rfl,hlt,hc⟩
  ·exact .inl h2
  ·exact .inl ⟨rfl,fun h=>by cases h⟩
 ·exact h.put hv hp hne
theorem eclips_any (es:List Ev) (v:Value) (i:Nat) (w:World) (h:EvsR w v es) (hcp:∀ a n c,v=.slice a n c→n≤c) (hn:es.length≤1000000) (hi:i<es.length) {n day:Int} (hE:VE es[i] n day) (h0:0≤n) (hd:day≤5184000) :
  Calls Tryz.prog 15 #[v,.int .i64 i] w fun e w'=>∃ v',e=.returned v'∧Gr w w'∧TrR w' v' ((evC (bfR (es.take i).reverse es[i].f) es[i]).map cm0):=by
 have b:=hE.bounds h0
 have l1:=hE.l
 have l2:=hE.ft
 have l3:=hE.d
 have l4:=hE.fr
 have hS:ES es[i]:=by
  refine⟨?_,?_,?_,⟨by omega,by omega,by omega⟩,⟨by omega,by omega⟩,⟨by omega,by omega⟩⟩
  all_goals rcases hE.kd with h | h | h <;> omega
 by_cases hk:es[i].k=0
 ·rw [evC_cut hE hk]
  exact clips_cut 8 rfl es v i w h hn hi hS hk
 ·exact clips_mix 8 22 rfl rfl es v i w h hcp hn hi hS (by rcases hE.kd with h | h | h <;> omega)
theorem cm0_map (l:List Cl):(l.map cm0).map CM.c=l:=by
 rw [List.map_map]
 exact List.map_id l
theorem evC_ch (bf:Sr) (e:Ev):∀ c∈evC bf e,c.ch=[]:=by
 intro c hc
 unfold evC evM evR at hc
 rcases List.mem_append.1 hc with h | h
 ·split at h
  ·cases h
  ·rw [List.mem_singleton.1 h];rfl
 ·split at h
  ·cases h
  ·rw [List.mem_singleton.1 h];rfl
def zRes (w:World) (vs:Array Value):World:=((w.alloc (.cells vs 25)).alloc (.cells #[.slice none 0 0] 28)).alloc (.cells #[.int .i64 0] 29)
structure Tv (w:World) (vs:List Value) (tv:Value) (wx:World):Prop where
 gr:Gr w wx
 c0:Cel wx w.heap.size vs
 c1:Blk wx (w.heap.size+1) 28 [tv]
 c2:Blk wx (w.heap.size+1+1) 29 [.int .i64 0]
theorem Tv.by {w wx wy:World} {vs:List Value} {tv:Value} (h:Tv w vs tv wx) (hg:Gr wx wy):Tv w vs tv wy:=⟨h.gr.trans hg,h.c0.gr hg,h.c1.gr hg,h.c2.gr hg⟩
theorem Tv.new (w:World) (vs:Array Value):Tv w vs.toList (.slice none 0 0) (zRes w vs):=by
 unfold zRes
 have k0:=((Cel.new w vs 25).alloc (.cells #[.slice none 0 0] 28)).alloc (.cells #[.int .i64 0] 29)
 have k1:=(Blk.new (w.alloc (.cells vs 25)) [.slice none 0 0] 28).gr ((Gr.refl _).alloc (.cells #[.int .i64 0] 29))
 have k2:=Blk.new ((w.alloc (.cells vs 25)).alloc (.cells #[.slice none 0 0] 28)) [.int .i64 0] 29
 simp at k1 k2
 exact⟨(((Gr.refl w).alloc _).alloc _).alloc _,k0,k1,k2⟩
theorem Tv.put {w wx:World} {vs:List Value} {tv u:Value} (h:Tv w vs tv wx):Tv w vs u (wx.setCell ⟨w.heap.size+1,0,none⟩ u):=
 ⟨h.gr.setCell (by show w.heap.size≤w.heap.size+1;omega) _,h.c0.other (by show w.heap.size+1≠w.heap.size;omega) _,h.c1.set 0 u,h.c2.other (by show w.heap.size+1≠w.heap.size+1+1;omega) _⟩
theorem own_one (W:World) (base:Nat) (e:TypeId) (size:Nat) (h:base≤W.heap.size) (l:List Value) (hl:l.length=size):(W.alloc (.cells l.toArray e)).ownsRow base e size (.slice (some ⟨W.heap.size,0,none⟩) 1 1) 1 l:=
 ⟨by simp [hl],.inr ⟨W.heap.size,1,l.toArray,rfl,h,heap_alloc_new W _,Nat.le_refl _,by unfold maxLen;omega,by simp [hl],by simp [List.take_of_length_le (Nat.le_of_eq hl)]⟩⟩
theorem cm0_list {L:List Cl} (h:∀ c∈L,c.ch=[]) (w:World):∀ m∈L.map cm0,ChR w m:=fun m hm=>by
 obtain⟨c,hc,rfl⟩:=List.mem_map.1 hm
 exact cm0_ch w (h c hc)
theorem cflat_one {L:List Cl} (h:∀ c∈L,c.ch=[]):∀ u∈cflat (L.map cm0),u.oneCell'=true:=fun u hu=>by
 unfold cflat at hu
 obtain⟨m,hm,hu2⟩:=List.mem_flatMap.1 hu
 exact (cm0_list h (default:World) m hm).one u hu2
theorem evC_len (bf:Sr) (e:Ev):(evC bf e).length≤2:=by
 unfold evC evM evR
 split <;> split <;> simp
theorem take_succ {es:List Ev} {j:Nat} (hj:j<es.length):es.take (j+1)=es.take j ++ [es[j]]:=(List.take_append_getElem hj).symm
theorem vEvs_take {day:Int} {es:List Ev} (h:vEvs day 0 es=true) {j:Nat} (hj:j<es.length):vEvs day 0 (es.take j)=true∧VE es[j] (endE 0 (es.take j)) day∧vEvs day 0 (es.take (j+1))=true:=by
 have h1:es.take j ++ es.drop j=es:=List.take_append_drop j es
 rw [List.drop_eq_getElem_cons hj] at h1
 have h2:=h
 rw [← h1] at h2
 obtain⟨h3,h4⟩:=vEvs_mid h2
 refine⟨h3,(vEvs_cons.1 h4).1,?_⟩
 have h5:es.take (j+1) ++ es.drop (j+1)=es:=List.take_append_drop _ _
 rw [← h5] at h
 exact (vEvs_mid h).1
theorem endE_bounds {day:Int} {es:List Ev} (hd:0<day) (h:vEvs day 0 es=true):0≤endE 0 es∧endE 0 es<day:=by
 have:=endE_ge h
 exact⟨this.1,this.2 hd⟩
set_option maxRecDepth 20000 in
set_option maxHeartbeats 8000000 in
theorem etrack_yes (l:El) (v:Value) (w:World) (h:ElR w v l) (hcp:∀ a n c,v=.slice a n c→n≤c) (hv:vEl l=true) :
  Calls Tryz.prog 5 #[l.val v] w fun e w'=>∃ v' E,e=.returned (.tuple #[v',.int .i64 E])∧Gr w w'∧((E=0∧∃ ts,TrR w' v' ts∧ts.map CM.c=trkL l.evs∧ts.length≤64)∨(E=5∧v'=.slice none 0 0∧64<(trkL l.evs).length)):=by
 have hmf:=hmf_any Tryz.prog
 have HV:Hid (∀ w',Gr w w'→Calls Tryz.prog 14 #[l.val v] w' fun e w''=>e=.returned (.bool true)∧Gr w' w''):=fun w' hg=>by rw [← hv];exact evalid_any l v w' (h.gr hg)
 obtain⟨o1,o2,o3,o4⟩:=vEl_parts hv
 obtain⟨d0,d1⟩:=day_bounds o1
 have hrow:=h.evs
 obtain⟨title,base,drop,evs⟩:=l
 clear h hv o2
 unfold El.val at *
 simp only at *
 generalize C19.dayN base drop=day at *
 have HK:Hid (∀ (j:Nat) (hj:j<evs.length) w',Gr w w'→Calls Tryz.prog 15 #[v,.int .i64 j] w' fun e w''=>∃ v',e=.returned v'∧Gr w' w''∧TrR w'' v' ((evC (bfR (evs.take j).reverse evs[j].f) evs[j]).map cm0)):=Lib.hid fun j hj w' hg=>by
  obtain⟨k1,k2,_⟩:=vEvs_take o4 hj
  exact eclips_any evs v j w' (hrow.gr hg) hcp (by omega) hj k2 (endE_bounds d0 k1).1 d1
 have HJ:Hid (∀ (j:Nat) (hj:j<evs.length) (w':World) (tv nv:Value) (ts ns:List CM),TrR w' tv ts→TrR w' nv ns→ts.map CM.c=trkL (evs.take j)→ts.length≤64 →
   ns.map CM.c=(if endE 0 (evs.take j)<evs[j].f then [gapC (evs[j].f - endE 0 (evs.take j))] else []) ++ evC (bfR (evs.take j).reverse evs[j].f) evs[j] →
   Calls Tryz.prog 16 #[tv,nv] w' fun e w''=>∃ v' E,e=.returned (.tuple #[v',.int .i64 E])∧Gr w' w''∧((E=0∧∃ ts',TrR w'' v' ts'∧ts'.map CM.c=trkL (evs.take (j+1))∧ts'.length≤64)∨(E=5∧v'=.slice none 0 0∧64<(trkL evs).length))):=Lib.hid fun j hj w' tv nv ts ns h1 h2 h3 h4 h5=>by
  obtain⟨k1,k2,k3⟩:=vEvs_take o4 hj
  obtain⟨e0,e1⟩:=endE_bounds d0 k1
  have hT:=trkL_vt d0 d1 k1 (by rw [← h3,List.length_map];exact h4)
  have hb:=bfE_valid d1 (bf:=blkS) k1 (Int.le_refl _) (.inl rfl)
  rw [← bfR_adds (evs.take j) evs[j] k2.l] at h5
  have hN:=next_vt k2 e0 d1 hb
  rw [← h3] at hT
  rw [← h5] at hN
  have ht:tot (ts.map CM.c)+tot (ns.map CM.c)≤2147483647:=by
   rw [h3,h5,adds_tot k2]
   have:=(trkL_vc d0 d1 k1).2
   have:=k2.d
   omega
  have hsn:pk (ts.map CM.c ++ ns.map CM.c)=trkL (evs.take (j+1)):=by
   rw [take_succ hj,trkL_snoc _ _ k2.l,h3,h5,bfR_adds (evs.take j) evs[j] k2.l]
  refine (join_any tv nv ts ns w' h1 h2 hT hN ht).mono ?_
  rintro e w'' ⟨v',E,rfl,hg,hh⟩
  refine⟨v',E,rfl,hg,?_⟩
  rw [hsn] at hh
  rcases hh with hh | ⟨q1,q2,q3⟩
  ·exact .inl hh
  ·refine .inr ⟨q1,q2,?_⟩
   have:=trkL_mono (evs.take (j+1)) (evs.drop (j+1))
   rw [List.take_append_drop] at this
   omega
 have HN:Hid (∀ (w':World) (tv:Value) (ts:List CM),TrR w' tv ts→ts.map CM.c=trkL evs→ts.length≤64→Calls Tryz.prog 17 #[tv] w' fun e w''=>∃ v' ts',e=.returned v'∧Gr w' w''∧TrR w'' v' ts'∧ts'.map CM.c=trkL evs∧ts'.length≤64):=Lib.hid fun w' tv ts h1 h2 h3=>by
  have hT:=trkL_vt d0 d1 o4 (by rw [← h2,List.length_map];exact h3)
  refine (normal_any ts tv w' h1 (fun c hc=>VC.ok (hT.vc _ (by rw [← h2];exact List.mem_map.2 ⟨c,hc,rfl⟩)))).mono ?_
  rintro e w'' ⟨v',ts',rfl,hg,q1,q2⟩
  rw [h2,trkL_norm d0 d1 o4 hT.len] at q2
  exact⟨v',ts',rfl,hg,q1,q2,by rw [← List.length_map (f:=CM.c),q2];exact hT.len⟩
 have HB:Hid (∀ (j:Nat) (hj:j<evs.length),0≤endE 0 (evs.take j)∧endE 0 (evs.take j)≤evs[j].f∧evs[j].f≤5184000∧evs[j].t≤5184000∧endE 0 (evs.take (j+1))=evs[j].t):=Lib.hid fun j hj=>by
  obtain⟨k1,k2,k3⟩:=vEvs_take o4 hj
  have:=endE_bounds d0 k1
  have:=k2.l
  have:=k2.ft
  have:=k2.d
  refine⟨by omega,by omega,by omega,by omega,?_⟩
  rw [take_succ hj,endE_snoc]
 obtain⟨a,cap,rfl,ha⟩:=hrow.shape
 replace ha:=Lib.hid ha
 have hT0:=Tv.new w #[.string title,.int .i64 base,.bool drop,.slice a evs.length cap]
 clear hrow hcp o1 o4 d0 d1
 go_enter_defers Tryz.func5,Tryz.ntmps5
 go_upto_region 5 with (go_at_call 14;(with_reducible refine (HV.out _ ?_).mono ?_);(· exact (by repeat (first | with_reducible exact Gr.refl _ | with_reducible assumption | refine Gr.setCell ?_ (by first | omega | (simp;done) | (simp;omega)) _ | refine Gr.alloc ?_ _ | refine Gr.drew ?_ | refine Gr.drewN ?_ _ | refine Gr.trans ?_ (by with_reducible assumption))));rintro e w1 ⟨rfl,hg1⟩;have hT1:=hT0.by hg1)
 clear HV hT0
 have x:=hT1.c0.lt
 have x3:=(hT1.c0.2 3 _ rfl).1
 go_wp2
 go_loopw [17,4] (fun i en wr=>∃ (j:Nat) (ts:List CM) (tv:Value),j≤evs.length∧i=.int .i64 j∧en=.int .i64 (endE 0 (evs.take j))∧Hid (ts.map CM.c=trkL (evs.take j))∧ts.length≤64∧TrR wr tv ts∧Tv w [.string title,.int .i64 base,.bool drop,.slice a evs.length cap] tv wr) (fun i _ _=>evs.length - (RowKit.intOf i).toNat)
 case atStart=>exact⟨0,[],.slice none 0 0,Nat.zero_le _,rfl,rfl,Lib.hid rfl,by simp,TrR.nil _,hT1⟩
 case round=>
  obtain⟨j,ts,tv,hj,rfl,rfl,hts,hl64,hTr,hT⟩:=hrel
  clear hT1 x x3 hg1
  by_cases c1:j<evs.length
  ·have q1:decide (j<evs.length)=true:=decide_eq_true c1
   rcases ha.out with ha2 | ⟨bb,oo,rfl,hb,hc⟩
   ·omega
   have hx1:bb<wr.heap.size:=Nat.lt_of_lt_of_le hb hT.gr.size
   obtain⟨e0,e1,e2,e3,e4,e5,e6,e7⟩:=ev_cells c1 hb hT.gr hc
   have HKj:=Lib.hid fun w' hg=>HK.out j c1 w' hg
   have HJj:=Lib.hid fun w' tv nv ts ns=>HJ.out j c1 w' tv nv ts ns
   obtain⟨k1,k2,k3,k4,k5⟩:=HB.out j c1
   obtain⟨L,hL⟩:∃ L,evC (bfR (evs.take j).reverse evs[j].f) evs[j]=L:=⟨_,rfl⟩
   have hLch:∀ c∈L,c.ch=[]:=by rw [← hL];exact evC_ch _ _
   have hLl:L.length≤2:=by rw [← hL];exact evC_len _ _
   rw [hL] at HKj HJj
   obtain⟨e,he⟩:∃ e,e=evs[j]:=⟨_,rfl⟩
   rw [← he] at e0 e1 e2 e3 e4 e5 e6 e7 k2 k3 k4 k5 HJj
   obtain⟨en,hen⟩:∃ en,endE 0 (evs.take j)=en:=⟨_,rfl⟩
   rw [hen] at k1 k2 HJj ⊢
   replace k5:=Lib.hid k5
   replace hLch:=Lib.hid hLch
   clear hc hL he HJ HK HB HN
   have hbox:=Cel.new wr #[.int .i64 e.k,.int .i64 e.p,.int .i64 e.fr,.string e.reel,.int .i64 e.i,.int .i64 e.o,.int .i64 e.f,.int .i64 e.t] 38
   have hgb:Gr wr (wr.alloc (.cells #[.int .i64 e.k,.int .i64 e.p,.int .i64 e.fr,.string e.reel,.int .i64 e.i,.int .i64 e.o,.int .i64 e.f,.int .i64 e.t] 38)):=(Gr.refl wr).alloc _
   have hTb:=hT.by hgb
   have hTrb:=hTr.gr hgb
   have x:=hTb.c0.lt
   have x3:=(hTb.c0.2 3 _ rfl).1
   have hE2:=hT.c2.lt
   go_upto_if 29 with (go_at_call 15;(with_reducible refine (HKj.out _ hTb.gr).mono ?_);rintro e8 w8 ⟨nv,rfl,hg8,hN8⟩;obtain⟨pn,cn,rfl,-⟩:=hN8.shape;have hT8:=hTb.by hg8;have hTr8:=hTrb.gr hg8;have hb8:=hbox.gr hg8;have y:=hb8.lt;have y6:=(hb8.2 6 _ rfl).1)
   obtain⟨E,hE⟩:∃ E,wr.heap.size=E:=⟨_,rfl⟩
   rw [hE] at hb8 y y6 hE2 ⊢
   have hRN:=hN8.rd
   rw [show (L.map cm0).length=L.length by simp] at hRN
   clear hbox hgb hTb hTrb x x3 hg8 hT hTr hx1 e0 e1 e2 e3 e4 e5 e6 e7 HKj hE
   go_cut [7] from 29 to 38 (fun nv wx=>∃ ns,Gr w8 wx∧TrR wx nv ns∧Hid (ns.map CM.c=(if en<e.f then [gapC (e.f - en)] else []) ++ L))
   case first=>as_aux_lemma=>
    by_cases hlt:en<e.f
    ·have q2:decide (en<e.f)=true:=decide_eq_true hlt
     obtain⟨ic,hic,hic0,hic1,hic2⟩:=info_parts infoClip3
     go_wp2_with (first
      | (refine wpList_bs1 rfl 27 61 (.tmp 34) rfl 22 (by kernel_rfl) (by kernel_rfl) (by omega) (by omega) (cm0 (gapC (e.f - en))).cells rfl rfl ?_)
      | (at_builtin;go_loud (refine wpList_append_rd rfl (.tmp 35) (.tmp 36) 27 rfl w8.heap.size 61 ic (.agg zClip) 22 216 (by kernel_rfl) hic hic0 hic1 hic2 rfl (by decide) _ 1 (cm0 (gapC (e.f - en))).cells rfl (own_one w8 w8.heap.size 61 22 (Nat.le_refl _) (cm0 (gapC (e.f - en))).cells rfl) _ L.length (cflat (L.map cm0)) rfl (hRN.gr ((Gr.refl w8).alloc _)) (cflat_one hLch.out) ?_ ?_ ?_ ?_);(· unfold maxLen;omega);(· omega);(· simp <;> omega);intro v9 w9 hown9 hgrow9;obtain⟨p10,c10,rfl⟩:=own_shape hown9))
     go_meet
     have hg9:Gr w8 w9:=((Gr.refl w8).alloc _).grown hgrow9 (fun k hk=>by cases hk;exact Nat.le_refl _)
     refine⟨cm0 (gapC (e.f - en)) :: L.map cm0,hg9,⟨?_,fun m hm=>?_⟩,Lib.hid ?_⟩
     ·have:=Rd.own hown9
      rw [show cflat (cm0 (gapC (e.f - en)) :: L.map cm0)=(cm0 (gapC (e.f - en))).cells ++ cflat (L.map cm0) from rfl,show (cm0 (gapC (e.f - en)) :: L.map cm0).length=1+L.length by simp;omega]
      exact this
     ·rcases List.mem_cons.1 hm with rfl | hm
      ·exact cm0_ch _ rfl
      ·exact cm0_list hLch.out _ m hm
     ·rw [if_pos hlt,List.map_cons,cm0_map]
      rfl
    ·have q2:decide (en<e.f)=false:=decide_eq_false hlt
     go_wp2
     go_meet
     refine⟨L.map cm0,Gr.refl _,?_,Lib.hid ?_⟩
     ·rw [show (L.map cm0).length=L.length by simp] at hN8
      exact hN8
     ·rw [if_neg (by omega),cm0_map]
      rfl
   case rest=>as_aux_lemma=>
    obtain⟨ns,hg9,hNs,hnm⟩:=hcut
    have hT9:=hT8.by hg9
    have hTr9:=hTr8.gr hg9
    have hb9:=hb8.gr hg9
    have HJ9:=Lib.hid (HJj.out wc tv _ ts ns hTr9 hNs hts.out hl64 hnm.out)
    obtain⟨pt,ct,rfl,-⟩:=hTr9.shape
    obtain⟨p9,c9,rfl,-⟩:=hNs.shape
    clear hN8 hRN hTr8 hT8 hb8 hg9 y y6 hnm HJj hTr9 hNs
    have x1:=hT9.c1.lt
    obtain⟨a1,f1⟩:=hT9.c1.cel.one
    go_upto_if 45 with (go_at_call 16;(with_reducible refine HJ9.out.mono ?_);rintro e10 w10 ⟨v10,E10,rfl,hg10,h10⟩)
    have hT10:=hT9.by hg10
    have hb10:=hb9.gr hg10
    clear x1 a1 f1 hT9 hb9 HJ9
    have x1:=hT10.c1.lt
    obtain⟨a1,f1⟩:=hT10.c1.cel.one
    rcases h10 with ⟨rfl,ts',hT',hm',hl'⟩ | ⟨rfl,rfl,h64⟩
    ·obtain⟨p10,c10,rfl,-⟩:=hT'.shape
     have y:=hb10.lt
     have y7:=(hb10.2 7 _ rfl).1
     replace hm':=Lib.hid hm'
     go_upto_region 14 with fail
     have hgu:Gr w10 w10.drew:=(Gr.refl w10).drew
     have hT11a:=hT10.by hgu
     have hTr11a:=hT'.gr hgu
     have hb11:=hb10.gr hgu
     clear x1 a1 f1 y y7
     refine wp_region_still (Keep 3 (fun x=>Cel x E [.int .i64 e.k,.int .i64 e.p,.int .i64 e.fr,.string e.reel,.int .i64 e.i,.int .i64 e.o,.int .i64 e.f,.int .i64 e.t])) 5 rfl (by kernel_rfl) ?_
     show stillAny _ _ _ _ _ _ #[false,false,false,false,false] _ _
     generalize w10.drew=w11 at *
     clear hT' hT10 hb10 hg10 hgu
     have hT11:=hT11a.put (u:=.slice p10 ts'.length c10)
     have hTr11:=hTr11a.put1 hT11a.c1 (u:=.slice p10 ts'.length c10) (.inr (by simp))
     have x1:=hT11a.c1.lt
     obtain⟨a1,f1⟩:=hT11a.c1.cel.one
     refine still_pure 0 (v:=.slice p10 ts'.length c10) rfl (by kernel_rfl) (by kernel_rfl) (by kernel_rfl) (fun _=>hb11) rfl (fun w hw=>?_) ?_
     ·simp [execOp,go_sem] <;> (intros;omega)
     simp only [Act.put,zI,zS,zZ]
     refine still_pure 1 (v:=.pointer (some ⟨E,7,none⟩)) rfl (by kernel_rfl) (by kernel_rfl) (by kernel_rfl) (fun _=>hb11) rfl (fun w hw=>?_) ?_
     ·simp [execOp,go_sem] <;> (intros;omega)
     simp only [Act.put,zI,zS,zZ]
     refine still_pure 2 (v:=.int .i64 e.t) rfl (by kernel_rfl) (by kernel_rfl) (by kernel_rfl) (fun _=>hb11) rfl (fun wy hw=>?_) ?_
     ·replace hw:=hw (by decide)
      have q1:=hw.lt
      have q2:=(hw.2 7 _ rfl).1
      simp [execOp,go_sem,q1,q2]
     simp only [Act.put,zI,zS,zZ]
     refine still_next (j:=3) (by kernel_rfl) (by rfl) (fun R hR=>?_)
     (try simp only [zG,zH,zK])
     go_wp2_with fail
     refine only_normal (hR _ _ (Keep.step (fun h=>h.other (p:=⟨w.heap.size+1,0,none⟩) (by show w.heap.size+1≠E;omega) _)) ?_)
     clear hR R
     simp only [Act.put,zI,zS,zZ]
     refine still_next (j:=4) (by kernel_rfl) (by rfl) (fun R hR=>?_)
     (try simp only [zG,zH,zK])
     go_wp2_with fail
     refine only_normal (hR _ _ (Keep.step (fun h=>h)) ?_)
     clear hR R
     simp only [Act.put,zI,zS,zZ]
     refine still_done (by kernel_rfl) ?_
     go_wp2
     exact⟨⟨j+1,ts',_,by omega,by go_num,by rw [k5.out],hm',hl',hTr11,hT11⟩,by simp [RowKit.intOf];omega⟩
    ·have x2:=hT10.c2.lt
     obtain⟨a2,f2⟩:=hT10.c2.cel.one
     have hgF:=(hT10.gr.setCell (p:=⟨w.heap.size+1,0,none⟩) (by show w.heap.size≤w.heap.size+1;omega) (.slice none 0 0)).setCell (p:=⟨w.heap.size+1+1,0,none⟩) (by show w.heap.size≤w.heap.size+1+1;omega) (.int .i64 5)
     replace hgF:=Lib.hid hgF
     replace h64:=Lib.hid h64
     clear hT10 hb10 hg10
     go_wp2
     refine leaves_cons (f:=13) (args:=#[.pointer (some ⟨w.heap.size+1,0,none⟩),.pointer (some ⟨w.heap.size+1+1,0,none⟩)]) (by simp) (by simp [go_sem]) ?_
     refine (trackD_idle _ _ _).mono ?_
     rintro e' u' w'' ⟨rfl,rfl,rfl⟩
     simp [Leaves,settle,results,Tryz.results5,go_sem,a1,a2]
     exact⟨_,_,⟨rfl,rfl⟩,hgF.out,.inr ⟨rfl,rfl,h64.out⟩⟩
  ·have q1:decide (j<evs.length)=false:=decide_eq_false c1
   obtain rfl:j=evs.length:=by omega
   rw [List.take_length] at hts
   have HN1:=Lib.hid (HN.out wr tv ts hTr hts.out hl64)
   obtain⟨pt,ct,rfl,-⟩:=hTr.shape
   clear HJ HK HB HN hTr
   have x1:=hT.c1.lt
   obtain⟨a1,f1⟩:=hT.c1.cel.one
   go_upto_region 16 with fail
   go_wp2_with (go_at_call 17;(with_reducible refine HN1.out.mono ?_);rintro e9 w9 ⟨v9,ts',rfl,hg9,hT9,hm9,hl9⟩;obtain⟨p9,c9,rfl,-⟩:=hT9.shape;have hV9:=hT.by hg9;have z1:=hV9.c1.lt;obtain⟨b1,g1⟩:=hV9.c1.cel.one;have z2:=hV9.c2.lt;obtain⟨b2,g2⟩:=hV9.c2.cel.one)
   have hF1:=hT9.put1 hV9.c1 (u:=.slice p9 ts'.length c9) (.inr (by simp))
   have hV1:=hV9.put (u:=.slice p9 ts'.length c9)
   have hF2:=hF1.put1 hV1.c2 (u:=.int .i64 0) (.inl rfl)
   have hgF:=hV1.gr.setCell (p:=⟨w.heap.size+1+1,0,none⟩) (by show w.heap.size≤w.heap.size+1+1;omega) (.int .i64 0)
   replace hF2:=Lib.hid hF2
   replace hgF:=Lib.hid hgF
   replace hm9:=Lib.hid hm9
   clear hF1 hV1 hV9 hT9
   refine leaves_cons (f:=13) (args:=#[.pointer (some ⟨w.heap.size+1,0,none⟩),.pointer (some ⟨w.heap.size+1+1,0,none⟩)]) (by simp) (by simp [go_sem]) ?_
   refine (trackD_idle _ _ _).mono ?_
   rintro e' u' w'' ⟨rfl,rfl,rfl⟩
   simp [Leaves,settle,results,Tryz.results5,go_sem,b1,b2]
   exact⟨_,_,⟨rfl,rfl⟩,hgF.out,.inl ⟨rfl,ts',hF2.out,hm9.out,hl9⟩⟩
set_option maxRecDepth 20000 in
set_option maxHeartbeats 4000000 in
theorem etrack_no (l:El) (v:Value) (w:World) (h:ElR w v l) (hv:vEl l=false) :
  Calls Tryz.prog 5 #[l.val v] w fun e w'=>e=.returned (.tuple #[.slice none 0 0,.int .i64 1])∧Gr w w':=by
 have hmf:=hmf_any Tryz.prog
 have HV:Hid (∀ w',Gr w w'→Calls Tryz.prog 14 #[l.val v] w' fun e w''=>e=.returned (.bool false)∧Gr w' w''):=fun w' hg=>by rw [← hv];exact evalid_any l v w' (h.gr hg)
 obtain⟨title,base,drop,evs⟩:=l
 clear hv
 obtain⟨a,cap,rfl,ha⟩:=h.evs.shape
 unfold El.val at *
 simp only at *
 have hT0:=Tv.new w #[.string title,.int .i64 base,.bool drop,.slice a evs.length cap]
 clear h ha
 go_enter_defers Tryz.func5,Tryz.ntmps5
 go_wp2_with (go_at_call 14;(with_reducible refine (HV.out _ ?_).mono ?_);(· exact (by repeat (first | with_reducible exact Gr.refl _ | with_reducible assumption | refine Gr.setCell ?_ (by first | omega | (simp;done) | (simp;omega)) _ | refine Gr.alloc ?_ _ | refine Gr.drew ?_ | refine Gr.drewN ?_ _ | refine Gr.trans ?_ (by with_reducible assumption))));rintro e w1 ⟨rfl,hg1⟩;have hT1:=hT0.by hg1;have z1:=hT1.c1.lt;obtain⟨b1,g1⟩:=hT1.c1.cel.one;have z2:=hT1.c2.lt;obtain⟨b2,g2⟩:=hT1.c2.cel.one)
 have hgF:=(hT1.gr.setCell (p:=⟨w.heap.size+1,0,none⟩) (by show w.heap.size≤w.heap.size+1;omega) (.slice none 0 0)).setCell (p:=⟨w.heap.size+1+1,0,none⟩) (by show w.heap.size≤w.heap.size+1+1;omega) (.int .i64 1)
 replace hgF:=Lib.hid hgF
 refine leaves_cons (f:=13) (args:=#[.pointer (some ⟨w.heap.size+1,0,none⟩),.pointer (some ⟨w.heap.size+1+1,0,none⟩)]) (by simp) (by simp [go_sem]) ?_
 refine (trackD_idle _ _ _).mono ?_
 rintro e' u' w'' ⟨rfl,rfl,rfl⟩
 simp [Leaves,settle,results,Tryz.results5,go_sem,b1,b2]
 exact hgF.out
def TrkP (l:El) (E:Int) (v:Value) (w:World):Prop:=
 (vEl l=false∧E=1∧v=.slice none 0 0)∨(vEl l=true∧64<(trkL l.evs).length∧E=5∧v=.slice none 0 0)∨(vEl l=true∧(trkL l.evs).length≤64∧E=0∧∃ ts,TrR w v ts∧ts.map CM.c=trkL l.evs)
theorem etrack_any (l:El) (v:Value) (w:World) (h:ElR w v l) (hcp:∀ a n c,v=.slice a n c→n≤c) :
  Calls Tryz.prog 5 #[l.val v] w fun e w'=>∃ v' E,e=.returned (.tuple #[v',.int .i64 E])∧Gr w w'∧TrkP l E v' w':=by
 cases hv:vEl l with
 | false=>
  refine (etrack_no l v w h hv).mono ?_
  rintro e w' ⟨rfl,hg⟩
  exact⟨_,_,rfl,hg,.inl ⟨hv,rfl,rfl⟩⟩
 | true=>
  refine (etrack_yes l v w h hcp hv).mono ?_
  rintro e w' ⟨v',E,rfl,hg,⟨rfl,ts,q1,q2,q3⟩ | ⟨rfl,rfl,q1⟩⟩
  ·refine⟨_,_,rfl,hg,.inr (.inr ⟨hv,?_,rfl,ts,q1,q2⟩)⟩
   rw [← q2,List.length_map]
   exact q3
  ·exact⟨_,_,rfl,hg,.inr (.inl ⟨hv,q1,rfl,rfl⟩)⟩
theorem own_off {W w:World} {base size n g:Nat} {e:TypeId} {v:Value} {xs:List Value} (h:W.ownsRow base e size v n xs) (hg:W.grownBy w (some g)) (hne:v.ownBlock≠some g):w.ownsRow base e size v n xs:=by
 refine⟨h.1,?_⟩
 rcases h.2 with hn | ⟨g',cap,cur,rfl,hb,hgg,rest⟩
 ·exact .inl hn
 ·refine .inr ⟨g',cap,cur,rfl,hb,?_,rest⟩
  rw [hg.block g' (Array.getElem?_eq_some_iff.1 hgg).1 (fun e=>hne (by injection e with e;rw [← e];rfl))]
  exact hgg
structure Rt (w:World) (P:Nat) (vs:List Value) (bf:List Value) (ov:Value) (L:List Cl) (wx:World):Prop where
 gr:Gr w wx
 c0:Cel wx w.heap.size vs
 bb:Blk wx P 59 bf
 own:wx.ownsRow (P+1) 61 22 ov L.length (cflat (L.map cm0))
theorem Rt.by {w wx wy:World} {P:Nat} {vs:List Value} {bf:List Value} {ov:Value} {L:List Cl} (h:Rt w P vs bf ov L wx) (hg:Gr wx wy):Rt w P vs bf ov L wy:=
 ⟨h.gr.trans hg,h.c0.gr hg,h.bb.gr hg,own_gr hg h.own⟩
theorem Rt.app {w wx wy:World} {P:Nat} {vs:List Value} {bf:List Value} {ov v':Value} {L:List Cl} (h:Rt w P vs bf ov L wx) (hP:w.heap.size<P) (c:Cl)
  (ho:wy.ownsRow (P+1) 61 22 v' (L.length+1) (cflat (L.map cm0) ++ (cm0 c).cells)) (hg:wx.grownBy wy ov.ownBlock):Rt w P vs bf v' (L ++ [c]) wy:=by
 have hge:=own_ge h.own
 refine⟨h.gr.grown hg (fun k hk=>by have:=hge k hk;omega),h.c0.grown hg (fun e=>by have:=hge _ e;omega),h.bb.grown hg (fun e=>by have:=hge _ e;omega),?_⟩
 rw [List.map_append,cflat_append,List.length_append,show cflat ([c].map cm0)=(cm0 c).cells by simp [cflat]]
 exact ho
theorem Rt.src {w wx:World} {P:Nat} {vs:List Value} {bf:List Value} {ov:Value} {L:List Cl} (h:Rt w P vs bf ov L wx) (hP:w.heap.size<P) (s:List Value):Rt w P vs s ov L (wx.setRow P s.toArray):=
 ⟨h.gr.setRow (by omega) _,h.c0.row_other (by omega) _,h.bb.setRow s,own_off h.own (grown_setRow wx P _) (fun e=>by have:=own_ge h.own _ e;omega)⟩
theorem Rt.cell {w wx:World} {P:Nat} {vs:List Value} {bf:List Value} {ov:Value} {L:List Cl} (h:Rt w P vs bf ov L wx) (hP:w.heap.size<P) (i:Nat) (u:Value):Rt w P vs (bf.set i u) ov L (wx.setCell ⟨P,i,none⟩ u):=
 ⟨h.gr.setCell (by show w.heap.size≤P;omega) _,h.c0.other (by show P≠_;omega) _,h.bb.set i u,own_off h.own (grown_setCell wx ⟨P,i,none⟩ u) (fun e=>by have:=own_ge h.own _ e;simp at this;omega)⟩
theorem trk_len:∀ {l:List Ev} {n:Int} {bf:Sr},(trk n bf l).length≤3 * l.length
 | [],n,bf=>by simp [trk]
 | e :: l,n,bf=>by
  have h1:=adds_len e n bf
  have h2:=trk_len (l:=l) (n:=e.t) (bf:=plS e.reel e.o)
  rw [trk_cons,List.length_append,List.length_cons]
  omega
end Go.Proofs.YtnginfangeikpaaGreatDoor
