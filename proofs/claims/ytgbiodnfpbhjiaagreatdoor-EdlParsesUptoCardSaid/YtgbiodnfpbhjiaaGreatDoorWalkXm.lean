/-
  Contract of Format of the reference of edit lists.
  Conditions: the list lies in memory.
-/
import Derived.Test.YtgbiodnfpbhjiaaGreatDoorWalkOfC
import Derived.Test.YtgbiodnfpbhjiaaGreatDoorWalkFx
import Derived.Deep.CutBlock
namespace Go.Proofs.YtgbiodnfpbhjiaaGreatDoor
open Go.RowKit Go.Lib
set_option linter.unusedSimpArgs false
set_option linter.unusedVariables false
theorem rformat30_no (l:El) (v:Value) (w:World) (h:ElR w v l) (hv:vEl l=false) :
  Calls Tryz.prog 25 #[l.val v] w fun e w'=>e=.returned (.tuple #[.string ⟨#[]⟩,.int .i64 1])∧Gr w w':=by
 have HV:Hid (∀ w',Gr w w'→Calls Tryz.prog 14 #[l.val v] w' fun e w''=>e=.returned (.bool false)∧Gr w' w''):=Lib.hid fun w' hg=>by rw [← hv];exact revalid_any l v w' (h.gr hg)
 obtain⟨title,base,drop,evs⟩:=l
 clear h hv
 unfold El.val at *
 simp only at *
 go_enter Tryz.func25,Tryz.ntmps25
 go_wp2_with (go_at_call 14;(with_reducible refine (HV.out _ ?_).mono ?_);(· exact (by repeat (first | with_reducible exact Gr.refl _ | with_reducible assumption | refine Gr.setCell ?_ (by first | omega | (simp;done) | (simp;omega)) _ | refine Gr.alloc ?_ _ | refine Gr.drew ?_ | refine Gr.drewN ?_ _ | refine Gr.trans ?_ (by with_reducible assumption))));rintro e w1 ⟨rfl,hg1⟩)
 go_ret2
 exact⟨rfl,(by repeat (first | refine Gr.setCell ?_ (by first | omega | (simp;done) | (simp;omega)) _ | refine Gr.alloc ?_ _ | refine Gr.drew ?_ | refine Gr.drewN ?_ _ | with_reducible assumption | with_reducible exact Gr.refl _ | refine Gr.trans ?_ (by with_reducible assumption)))⟩
set_option maxRecDepth 20000 in
set_option maxHeartbeats 8000000 in
theorem rformat30_core (title:ByteArray) (base:Int) (drop:Bool) (evs:List Ev) (a:Option Addr) (cap:Nat) (w:World) (AC:Nat→List UInt8) (FM:List UInt8) (day:Int)
  (hrow:EvsR w (.slice a evs.length cap) evs) (hn:evs.length≤999) (hts:title.size≤64) (o4:vEvs day 0 evs=true)
  (HV:Hid (∀ w',Gr w w'→Calls Tryz.prog 14 #[.agg #[.string title,.int .i64 base,.bool drop,.slice a evs.length cap]] w' fun e w''=>e=.returned (.bool true)∧Gr w' w''))
  (HL:Hid (∀ (n:Int) (w':World),0≤n→n<day→Calls Tryz.prog 65 #[.int .i64 n,.agg #[.string title,.int .i64 base,.bool drop,.slice a evs.length cap]] w' fun e w''=>e=.returned (.string (labS n base drop))∧Gr w' w''))
  (hlab:Hid (∀ n,(labS n base drop).size=11))
  (hacc0:Hid (AC 0=ttlB title ++ [10] ++ (fcmB drop ++ [10])))
  (hsucc:Hid (∀ k (hk:k<evs.length),AC (k+1)=AC k ++ (evL base drop (k+1) evs[k] ++ [10])))
  (hall:Hid (AC evs.length=FM)) :
  Calls Tryz.prog 25 #[.agg #[.string title,.int .i64 base,.bool drop,.slice a evs.length cap]] w fun e w'=>e=.returned (.tuple #[.string ⟨FM.toArray⟩,.int .i64 0])∧Gr w w':=by
 have HT:Hid (∀ (n:Int) (w':World),0≤n→n<1000→Calls Tryz.prog 64 #[.int .i64 n] w' fun e w''=>e=.returned (.string ⟨(t3 n).toArray⟩)∧w'=w''):=Lib.hid fun n w' h0 h1=>rthree_any n w' h0 h1
 have hg0:Gr w (w.alloc (.cells #[.string title,.int .i64 base,.bool drop,.slice a evs.length cap] 24)):=(Gr.refl w).alloc _
 have hb0:=Cel.new w #[.string title,.int .i64 base,.bool drop,.slice a evs.length cap] 24
 obtain⟨W,hW⟩:∃ W,w.alloc (.cells #[.string title,.int .i64 base,.bool drop,.slice a evs.length cap] 24)=W:=⟨_,rfl⟩
 rw [hW] at hg0 hb0
 have hrow0:=Rd.gr hg0 hrow
 have x:=hb0.lt
 have x0:=(hb0.2 0 _ rfl).1
 have x1:=(hb0.2 1 _ rfl).1
 have x2:=(hb0.2 2 _ rfl).1
 have x3:=(hb0.2 3 _ rfl).1
 go_enter Tryz.func25,Tryz.ntmps25
 go_upto_region 3 with (go_at_call 14;(with_reducible refine (HV.out _ ?_).mono ?_);(· exact hg0);rintro e w1 ⟨rfl,hg1⟩)
 have hb1:=hb0.gr hg1
 have hgw:=hg0.trans hg1
 have hrow1:EvsR w1 (.slice a evs.length cap) evs:=Rd.gr hg1 hrow0
 have y:=hb1.lt
 have y0:=(hb1.2 0 _ rfl).1
 have y1:=(hb1.2 1 _ rfl).1
 have y2:=(hb1.2 2 _ rfl).1
 have y3:=(hb1.2 3 _ rfl).1
 clear x x0 x1 x2 x3 hW hg0 hb0 hrow0 hg1 HV hrow
 go_upto_if 16 with fail
 go_cut [4] (fun vs wx=>∃ s:ByteArray,vs=.string s∧wx=w1∧s.size≤300∧Hid (s.data.toList=AC 0))
 case first=>
  cases drop
  ·go_wp2
   go_meet
   refine⟨_,rfl,rfl,?_,Lib.hid ?_⟩
   ·simp only [ByteArray.size_append];show 7+title.size+21≤300;omega
   ·rw [hacc0.out];unfold ttlB fcmB;simp
  ·go_wp2
   go_meet
   refine⟨_,rfl,rfl,?_,Lib.hid ?_⟩
   ·simp only [ByteArray.size_append];show 7+title.size+17≤300;omega
   ·rw [hacc0.out];unfold ttlB fcmB;simp
 case rest=>
  obtain⟨s0,rfl,rfl,hs0,hA0⟩:=hcut
  obtain⟨pa,pc,hsl,ha⟩:=hrow1.shape
  injection hsl with e1 _ e3
  subst e1 e3
  clear hacc0
  go_wp2
  go_loopw [4,5,7] (fun vs vi vr wr=>∃ (k:Nat) (s:ByteArray),vs=.string s∧vi=.int .i64 k∧k≤evs.length∧s.size≤300+200 * k∧Gr wc wr∧Hid (s.data.toList=AC k)) (fun _ i _ _=>evs.length - (RowKit.intOf i).toNat)
  case atStart=>exact⟨0,s0,rfl,rfl,Nat.zero_le _,by omega,Gr.refl _,hA0⟩
  case round=>
   obtain⟨k,s,rfl,rfl,hk,hsz,hg,hA⟩:=hrel
   have hbr:=hb1.gr hg
   have z:=hbr.lt
   have z0:=(hbr.2 0 _ rfl).1
   have z1:=(hbr.2 1 _ rfl).1
   have z2:=(hbr.2 2 _ rfl).1
   have z3:=(hbr.2 3 _ rfl).1
   clear hA0 hs0 y y0 y1 y2 y3
   by_cases c1:k<evs.length
   ·have q6:decide ((k:Int)<(evs.length:Int))=true:=decide_eq_true (by omega)
    have q6':decide (k<evs.length)=true:=decide_eq_true c1
    rcases ha with ha2 | ⟨bb,oo,rfl,hb,hc⟩
    ·omega
    have hx1:bb<wr.heap.size:=Nat.lt_of_lt_of_le hb hg.size
    obtain⟨e0,e1,e2,e3,e4,e5,e6,e7⟩:=ev_cells c1 hb hg hc
    obtain⟨m,hm0,hm⟩:=vEvs_at c1 (Int.le_refl 0) o4
    have hsk:=hsucc.out k c1
    generalize evs[k]=c at e0 e1 e2 e3 e4 e5 e6 e7 hm hsk
    clear hc hsucc hall
    replace hsk:=Lib.hid hsk
    have i0:(0:Int)≤(k:Int)∧(k:Int)<(evs.length:Int):=by omega
    go_upto_region 10 with fail
    have hgA:Gr wr (wr.alloc (.cells #[.int .i64 c.k,.int .i64 c.p,.int .i64 c.fr,.string c.reel,.int .i64 c.i,.int .i64 c.o,.int .i64 c.f,.int .i64 c.t] 30)):=(Gr.refl wr).alloc _
    have hbE:=Cel.new wr #[.int .i64 c.k,.int .i64 c.p,.int .i64 c.fr,.string c.reel,.int .i64 c.i,.int .i64 c.o,.int .i64 c.f,.int .i64 c.t] 30
    obtain⟨W5,hW5⟩:∃ W5,wr.alloc (.cells #[.int .i64 c.k,.int .i64 c.p,.int .i64 c.fr,.string c.reel,.int .i64 c.i,.int .i64 c.o,.int .i64 c.f,.int .i64 c.t] 30)=W5:=⟨_,rfl⟩
    rw [hW5] at hgA hbE ⊢
    have hg5:=hg.trans hgA
    have hb5:=hbr.gr hgA
    obtain⟨X,hX⟩:∃ X,wr.heap.size=X:=⟨_,rfl⟩
    rw [hX] at hbE ⊢
    clear hW5 hX hgA e0 e1 e2 e3 e4 e5 e6 e7 z z0 z1 z2 z3 hx1 hbr
    have u:=hbE.lt
    have u0:=(hbE.2 0 _ rfl).1
    have u1:=(hbE.2 1 _ rfl).1
    have u2:=(hbE.2 2 _ rfl).1
    have u3:=(hbE.2 3 _ rfl).1
    have r0:=hb5.lt
    have hrs:=reel_size hm
    obtain⟨R,hR⟩:∃ R,toBa (reelB c)=R:=⟨_,rfl⟩
    have hRl:R.data.toList=reelB c:=by rw [← hR,toBa_list]
    have hRs:R.size≤64:=by rw [← ba_len,hRl];omega
    obtain⟨B1,hB1⟩:∃ B1,c.reel.toList.isEmpty=B1:=⟨_,rfl⟩
    have hRB:Hid (R=if B1=true then ⟨#[66,76]⟩ else c.reel):=Lib.hid (by
     rw [← hR,← hB1]
     unfold reelB
     apply ba_ext
     rw [toBa_list,ByteArray.toList_eq]
     by_cases hz:c.reel.size=0
     ·rw [if_pos hz]
      have:c.reel.data.toList.length=0:=by rw [ba_len];exact hz
      rw [List.eq_nil_of_length_eq_zero this]
      rfl
     ·rw [if_neg hz]
      have:c.reel.data.toList.isEmpty=false:=by
       cases hl:c.reel.data.toList with
       | nil=>have:=congrArg List.length hl;rw [ba_len] at this;exact absurd this hz
       | cons x r=>rfl
      rw [this]
      rfl)
    replace hR:=Lib.hid hR
    replace hRl:=Lib.hid hRl
    go_upto_if 36 with fail
    go_cut [7] (fun vs wx=>vs=.string R∧wx=W5)
    case first=>
     cases B1 with
     | false=>
      have hr1:R=c.reel:=by rw [hRB.out];rfl
      replace hr1:=Lib.hid hr1
      go_wp2
      go_meet
      exact⟨by rw [hr1.out],rfl⟩
     | true=>
      have hr1:R=⟨#[66,76]⟩:=by rw [hRB.out];rfl
      replace hr1:=Lib.hid hr1
      go_wp2
      go_meet
      exact⟨by rw [hr1.out],rfl⟩
    case rest=>
     obtain⟨rfl,rfl⟩:=hcut
     have HT1:=Lib.hid fun w'=>HT.out ((k:Int)+1) w' (by omega) (by omega)
     have hT1:(⟨(t3 ((k:Int)+1)).toArray⟩:ByteArray).size=3:=rfl
     obtain⟨T1,hT1e⟩:∃ T1:ByteArray,(⟨(t3 ((k:Int)+1)).toArray⟩:ByteArray)=T1:=⟨_,rfl⟩
     have hT1l:T1.data.toList=t3 ((k:Int)+1):=by rw [← hT1e]
     rw [hT1e] at HT1 hT1
     replace hT1e:=Lib.hid hT1e
     replace hT1l:=Lib.hid hT1l
     go_upto_block 2 with (go_at_call 64;(with_reducible refine (HT1.out _).mono ?_);rintro e w6 ⟨rfl,rfl⟩)
     obtain⟨S1,hS1⟩:∃ S1,s ++ T1 ++ ⟨#[32]⟩ ++ R ++ ⟨#[32,86,32]⟩=S1:=⟨_,rfl⟩
     have hS1l:S1.data.toList=AC k ++ (t3 ((k:Int)+1) ++ ([32] ++ (reelB c ++ [32,86,32]))):=by
      rw [← hS1]
      simp [hA.out,hT1l.out,hRl.out]
     have hS1s:S1.size≤300+200 * k+71:=by
      rw [← hS1]
      simp only [ByteArray.size_append]
      show s.size+T1.size+1+R.size+3≤_
      omega
     rw [hS1]
     replace hS1:=Lib.hid hS1
     replace hS1l:=Lib.hid hS1l
     have hkds:=kd_size hm
     go_cut [4] (fun vs wx=>∃ s2:ByteArray,vs=.string s2∧Gr wc wx∧s2.size≤300+200 * k+90∧Hid (s2.data.toList=S1.data.toList ++ kdB c))
     case first=>
      rcases hm.kd with ⟨k0,_,_⟩ | ⟨k0,f1,f2,_⟩ | ⟨k0,f1,f2,p1,p2⟩
      ·have qk:(c.k == 0)=true:=by simp [k0]
       replace k0:=Lib.hid k0
       go_wp2
       go_meet
       refine⟨_,rfl,Gr.refl _,?_,Lib.hid ?_⟩
       ·simp only [ByteArray.size_append];show S1.size+1≤_;omega
       ·unfold kdB;rw [if_pos k0.out];simp
      ·have qk:(c.k == 0)=false:=by simp;omega
       have qk1:(c.k == 1)=true:=by simp [k0]
       have HT2:=Lib.hid fun w'=>HT.out c.fr w' (by omega) (by omega)
       replace k0:=Lib.hid k0
       obtain⟨T2,hT2e⟩:∃ T2:ByteArray,(⟨(t3 c.fr).toArray⟩:ByteArray)=T2:=⟨_,rfl⟩
       have hT2:T2.size=3:=by rw [← hT2e];rfl
       have hT2l:T2.data.toList=t3 c.fr:=by rw [← hT2e]
       rw [hT2e] at HT2
       replace hT2e:=Lib.hid hT2e
       replace hT2l:=Lib.hid hT2l
       go_wp2_with (go_at_call 64;(with_reducible refine (HT2.out _).mono ?_);rintro e w6 ⟨rfl,rfl⟩)
       go_meet
       refine⟨_,rfl,Gr.refl _,?_,Lib.hid ?_⟩
       ·simp only [ByteArray.size_append];show S1.size+2+T2.size≤_;omega
       ·unfold kdB;rw [if_neg (by have:=k0.out;omega),if_pos k0.out];simp [hT2l.out]
      ·have qk:(c.k == 0)=false:=by simp;omega
       have qk1:(c.k == 1)=false:=by simp;omega
       have HT2:=Lib.hid fun w'=>HT.out c.fr w' (by omega) (by omega)
       have eP:=b8_enc (48+c.p) (by omega) (by omega)
       obtain⟨B8,hB8⟩:∃ B8,b8 (48+c.p)=B8:=⟨_,rfl⟩
       rw [hB8] at eP
       replace hB8:=Lib.hid hB8
       replace k0:=Lib.hid k0
       obtain⟨T2,hT2e⟩:∃ T2:ByteArray,(⟨(t3 c.fr).toArray⟩:ByteArray)=T2:=⟨_,rfl⟩
       have hT2:T2.size=3:=by rw [← hT2e];rfl
       have hT2l:T2.data.toList=t3 c.fr:=by rw [← hT2e]
       rw [hT2e] at HT2
       replace hT2e:=Lib.hid hT2e
       replace hT2l:=Lib.hid hT2l
       go_wp2
       refine wp_region_gr (by as_aux_lemma=>kernel_rfl) (by as_aux_lemma=>kernel_rfl) (fun hq1 hq2=>?_)
       repeat (first | go_big_quiet_skip | (go_big_quiet_want;go_big_quiet_op;first | go_big_quiet_on | (apply Exists.intro;refine⟨fun _=>?_,?_⟩;(· ((go_at_call 64;with_reducible exact gr_call_same (HT2.out _))));go_big_quiet_on)))
       refine wpQuiet_nil ?_
       clear hq1 hq2
       rintro w8 ⟨⟨_,hg8⟩,rfl⟩
       obtain⟨hc8,hf8⟩:=hg8.cells
       have hz8:=hg8.size
       (try simp at hz8);(try have hl8_0_0:w.heap.size<w8.heap.size:=by omega);(try have hm8_0_0:w.heap.size≤w8.heap.size:=by omega);(try have hl8_0_1:w.heap.size+1<w8.heap.size:=by omega);(try have hl8_0_2:w.heap.size+2<w8.heap.size:=by omega);(try have hl8_1_0:w1.heap.size<w8.heap.size:=by omega);(try have hm8_1_0:w1.heap.size≤w8.heap.size:=by omega);(try have hl8_1_1:w1.heap.size+1<w8.heap.size:=by omega);(try have hl8_1_2:w1.heap.size+2<w8.heap.size:=by omega);(try have hl8_2_0:w2.heap.size<w8.heap.size:=by omega);(try have hm8_2_0:w2.heap.size≤w8.heap.size:=by omega);(try have hl8_2_1:w2.heap.size+1<w8.heap.size:=by omega);(try have hl8_2_2:w2.heap.size+2<w8.heap.size:=by omega);(try have hl8_3_0:w3.heap.size<w8.heap.size:=by omega);(try have hm8_3_0:w3.heap.size≤w8.heap.size:=by omega);(try have hl8_3_1:w3.heap.size+1<w8.heap.size:=by omega);(try have hl8_3_2:w3.heap.size+2<w8.heap.size:=by omega);(try have hl8_4_0:w4.heap.size<w8.heap.size:=by omega);(try have hm8_4_0:w4.heap.size≤w8.heap.size:=by omega);(try have hl8_4_1:w4.heap.size+1<w8.heap.size:=by omega);(try have hl8_4_2:w4.heap.size+2<w8.heap.size:=by omega);(try have hl8_5_0:w5.heap.size<w8.heap.size:=by omega);(try have hm8_5_0:w5.heap.size≤w8.heap.size:=by omega);(try have hl8_5_1:w5.heap.size+1<w8.heap.size:=by omega);(try have hl8_5_2:w5.heap.size+2<w8.heap.size:=by omega);(try have hl8_6_0:w6.heap.size<w8.heap.size:=by omega);(try have hm8_6_0:w6.heap.size≤w8.heap.size:=by omega);(try have hl8_6_1:w6.heap.size+1<w8.heap.size:=by omega);(try have hl8_6_2:w6.heap.size+2<w8.heap.size:=by omega);(try have hl8_7_0:w7.heap.size<w8.heap.size:=by omega);(try have hm8_7_0:w7.heap.size≤w8.heap.size:=by omega);(try have hl8_7_1:w7.heap.size+1<w8.heap.size:=by omega);(try have hl8_7_2:w7.heap.size+2<w8.heap.size:=by omega)
       go_wp2
       go_meet
       refine⟨_,rfl,hg8,?_,Lib.hid ?_⟩
       ·simp only [ByteArray.size_append];show S1.size+1+1+1+T2.size≤_;omega
       ·unfold kdB;rw [if_neg (by have:=k0.out;omega),if_neg (by have:=k0.out;omega)];simp [hT2l.out,hB8.out]
     case rest=>
      obtain⟨s2,rfl,hgc,hs2,hA2⟩:=hcut
      have bi:0≤c.i∧c.i<day∧0≤c.o∧c.o<day∧0≤c.f∧c.f<day∧0≤c.t∧c.t<day:=by
       have h1:=hm.l
       have h2:=hm.ft
       have h3:=hm.d
       rcases hm.rl with ⟨_,h4,h5⟩ | ⟨_,_,h4,h5,h6,h7⟩ <;> omega
      obtain⟨bi1,bi2,bi3,bi4,bi5,bi6,bi7,bi8⟩:=bi
      have HL1:=Lib.hid fun w'=>HL.out c.i w' bi1 bi2
      have HL2:=Lib.hid fun w'=>HL.out c.o w' bi3 bi4
      have HL3:=Lib.hid fun w'=>HL.out c.f w' bi5 bi6
      have HL4:=Lib.hid fun w'=>HL.out c.t w' bi7 bi8
      have hl1:=hlab.out c.i
      have hl2:=hlab.out c.o
      have hl3:=hlab.out c.f
      have hl4:=hlab.out c.t
      have hk1:Hid (∀ L1 L2 L3 L4:ByteArray,labS c.i base drop=L1→labS c.o base drop=L2→labS c.f base drop=L3→labS c.t base drop=L4→(s2 ++ ⟨#[32]⟩ ++ L1 ++ ⟨#[32]⟩ ++ L2 ++ ⟨#[32]⟩ ++ L3 ++ ⟨#[32]⟩ ++ L4 ++ ⟨#[10]⟩).data.toList=AC (k+1)):=Lib.hid (by
       rintro _ _ _ _ rfl rfl rfl rfl
       rw [hsk.out]
       unfold evL labB
       simp [hA2.out,hS1l.out])
      obtain⟨L1,e1⟩:∃ L1,labS c.i base drop=L1:=⟨_,rfl⟩
      obtain⟨L2,e2⟩:∃ L2,labS c.o base drop=L2:=⟨_,rfl⟩
      obtain⟨L3,e3⟩:∃ L3,labS c.f base drop=L3:=⟨_,rfl⟩
      obtain⟨L4,e4⟩:∃ L4,labS c.t base drop=L4:=⟨_,rfl⟩
      replace hk1:=Lib.hid (hk1.out L1 L2 L3 L4 e1 e2 e3 e4)
      rw [e1] at HL1 hl1
      rw [e2] at HL2 hl2
      rw [e3] at HL3 hl3
      rw [e4] at HL4 hl4
      clear e1 e2 e3 e4 hm HL HT hlab
      have hbc:=hbE.gr hgc
      have h5c:=hb5.gr hgc
      have hgr:=hg5.trans hgc
      clear u u0 u1 u2 u3 r0 hbE hb5
      have u:=hbc.lt
      have u4:=(hbc.2 4 _ rfl).1
      have u5:=(hbc.2 5 _ rfl).1
      have u6:=(hbc.2 6 _ rfl).1
      have u7:=(hbc.2 7 _ rfl).1
      have r:=h5c.lt
      have r0:=(h5c.2 0 _ rfl).1
      have r1:=(h5c.2 1 _ rfl).1
      have r2:=(h5c.2 2 _ rfl).1
      have r3:=(h5c.2 3 _ rfl).1
      go_wp2
      refine wp_region_gr (by as_aux_lemma=>kernel_rfl) (by as_aux_lemma=>kernel_rfl) (fun hq1 hq2=>?_)
      repeat (first | go_big_quiet_skip | (go_big_quiet_want;go_big_quiet_op;first | go_big_quiet_on | (apply Exists.intro;refine⟨fun _=>?_,?_⟩;(· ((go_at_call 65;first | (with_reducible exact gr_call (HL1.out _)) | (with_reducible exact gr_call (HL2.out _)) | (with_reducible exact gr_call (HL3.out _)) | (with_reducible exact gr_call (HL4.out _)))));go_big_quiet_on)))
      refine wpQuiet_nil ?_
      clear hq1 hq2
      rintro w9 ⟨⟨_,hg9⟩,rfl⟩
      obtain⟨hc9,hf9⟩:=hg9.cells
      have hz9:=hg9.size
      (try simp at hz9);(try have hl9_0_0:w.heap.size<w9.heap.size:=by omega);(try have hm9_0_0:w.heap.size≤w9.heap.size:=by omega);(try have hl9_0_1:w.heap.size+1<w9.heap.size:=by omega);(try have hl9_0_2:w.heap.size+2<w9.heap.size:=by omega);(try have hl9_1_0:w1.heap.size<w9.heap.size:=by omega);(try have hm9_1_0:w1.heap.size≤w9.heap.size:=by omega);(try have hl9_1_1:w1.heap.size+1<w9.heap.size:=by omega);(try have hl9_1_2:w1.heap.size+2<w9.heap.size:=by omega);(try have hl9_2_0:w2.heap.size<w9.heap.size:=by omega);(try have hm9_2_0:w2.heap.size≤w9.heap.size:=by omega);(try have hl9_2_1:w2.heap.size+1<w9.heap.size:=by omega);(try have hl9_2_2:w2.heap.size+2<w9.heap.size:=by omega);(try have hl9_3_0:w3.heap.size<w9.heap.size:=by omega);(try have hm9_3_0:w3.heap.size≤w9.heap.size:=by omega);(try have hl9_3_1:w3.heap.size+1<w9.heap.size:=by omega);(try have hl9_3_2:w3.heap.size+2<w9.heap.size:=by omega);(try have hl9_4_0:w4.heap.size<w9.heap.size:=by omega);(try have hm9_4_0:w4.heap.size≤w9.heap.size:=by omega);(try have hl9_4_1:w4.heap.size+1<w9.heap.size:=by omega);(try have hl9_4_2:w4.heap.size+2<w9.heap.size:=by omega);(try have hl9_5_0:w5.heap.size<w9.heap.size:=by omega);(try have hm9_5_0:w5.heap.size≤w9.heap.size:=by omega);(try have hl9_5_1:w5.heap.size+1<w9.heap.size:=by omega);(try have hl9_5_2:w5.heap.size+2<w9.heap.size:=by omega);(try have hl9_6_0:w6.heap.size<w9.heap.size:=by omega);(try have hm9_6_0:w6.heap.size≤w9.heap.size:=by omega);(try have hl9_6_1:w6.heap.size+1<w9.heap.size:=by omega);(try have hl9_6_2:w6.heap.size+2<w9.heap.size:=by omega);(try have hl9_7_0:w7.heap.size<w9.heap.size:=by omega);(try have hm9_7_0:w7.heap.size≤w9.heap.size:=by omega);(try have hl9_7_1:w7.heap.size+1<w9.heap.size:=by omega);(try have hl9_7_2:w7.heap.size+2<w9.heap.size:=by omega);(try have hl9_8_0:w8.heap.size<w9.heap.size:=by omega);(try have hm9_8_0:w8.heap.size≤w9.heap.size:=by omega);(try have hl9_8_1:w8.heap.size+1<w9.heap.size:=by omega);(try have hl9_8_2:w8.heap.size+2<w9.heap.size:=by omega)
      clear u u4 u5 u6 u7 r r0 r1 r2 r3 hc9 hf9
      go_wp2
      go_roundw
      case rel=>
       refine⟨k+1,_,rfl,by go_num,by omega,?_,hgr.trans hg9,hk1⟩
       simp only [ByteArray.size_append]
       show s2.size+1+L1.size+1+L2.size+1+L3.size+1+L4.size+1≤_
       omega
      case measure=>simp [RowKit.intOf];omega
   ·have q6:decide ((k:Int)<(evs.length:Int))=false:=decide_eq_false (by omega)
    have q6':decide (k<evs.length)=false:=decide_eq_false c1
    obtain rfl:k=evs.length:=by omega
    have hF:s=⟨FM.toArray⟩:=by
     apply ba_ext
     rw [hA.out,hall.out]
    replace hF:=Lib.hid hF
    go_wp2
    go_ret2
    exact⟨by rw [← hF.out];rfl,hgw.trans hg⟩
theorem rformat30_yes (l:El) (v:Value) (w:World) (h:ElR w v l) (hv:vEl l=true) :
  Calls Tryz.prog 25 #[l.val v] w fun e w'=>e=.returned (.tuple #[.string ⟨(fmtB l).toArray⟩,.int .i64 0])∧Gr w w':=by
 have HV:Hid (∀ w',Gr w w'→Calls Tryz.prog 14 #[l.val v] w' fun e w''=>e=.returned (.bool true)∧Gr w' w''):=Lib.hid fun w' hg=>by rw [← hv];exact revalid_any l v w' (h.gr hg)
 obtain⟨o1,o2,o3,o4⟩:=vEl_parts hv
 obtain⟨d0,d1⟩:=day_bounds o1
 obtain⟨a,cap,rfl,_⟩:=h.evs.shape
 have hA:=accB_all l
 have hs:∀ k (hk:k<l.evs.length),accB l (k+1)=accB l k ++ (evL l.base l.drop (k+1) l.evs[k] ++ [10]):=fun k hk=>accB_succ hk
 have h0:accB l 0=ttlB l.title ++ [10] ++ (fcmB l.drop ++ [10]):=by unfold accB;simp [flatL,evLs]
 obtain⟨title,base,drop,evs⟩:=l
 exact rformat30_core title base drop evs a cap w _ _ (C19.dayN base drop) h.evs o3 (vLine_sz o2).2 o4 HV (Lib.hid fun n w' q0 q1=>rlabel30_any n title base drop _ w' o1 q0 q1) (Lib.hid fun n=>rfl) (Lib.hid h0) (Lib.hid hs) (Lib.hid hA)
end Go.Proofs.YtgbiodnfpbhjiaaGreatDoor
