/-
  Contracts of the tape of choices: a position, a speed, a name.
  Conditions: the tape's numbers lie in memory.
-/
import Derived.Test.YtgbiodnfpbhjiaaGreatDoorWalkTp
import Derived.Lib.RuneBytes
import Derived.Deep.DeepCutAuto
import Derived.Test.YtgbiodnfpbhjiaaGreatDoorClip
import Derived.Laws.Tables
import Derived.Laws.Rows
import Derived.Test.YtgbiodnfpbhjiaaGreatDoorWalkUe
import Derived.Test.YtgbiodnfpbhjiaaGreatDoorWalkOfL
namespace Go.Proofs.YtgbiodnfpbhjiaaGreatDoor
open Go.RowKit Go.Lib
set_option linter.unusedSimpArgs false
set_option linter.unusedVariables false
abbrev speedsV:List Value:=[.int .i64 1,.int .i64 1,.int .i64 1,.int .i64 1,.int .i64 1,.int .i64 1,.int .i64 0,.int .i64 1,.int .i64 (-1),.int .i64 1,.int .i64 1,.int .i64 2,.int .i64 2,.int .i64 1,.int .i64 800,.int .i64 1001,.int .i64 (-3),.int .i64 2]
theorem speed_at {W:World} {G rn:Nat} (h:Cel W G speedsV) (hr:rn<9):∃ n d:Int,-2000≤n∧n≤2000∧0≤d∧d≤2000∧W.cell? ⟨G,rn * 2,none⟩=some (.int .i64 n)∧W.cell? ⟨G,rn * 2+1,none⟩=some (.int .i64 d):=by
 rcases (show rn=0∨rn=1∨rn=2∨rn=3∨rn=4∨rn=5∨rn=6∨rn=7∨rn=8 by omega) with rfl | rfl | rfl | rfl | rfl | rfl | rfl | rfl | rfl
 ·exact⟨1,1,by omega,by omega,by omega,by omega,(h.2 0 _ rfl).1,(h.2 1 _ rfl).1⟩
 ·exact⟨1,1,by omega,by omega,by omega,by omega,(h.2 2 _ rfl).1,(h.2 3 _ rfl).1⟩
 ·exact⟨1,1,by omega,by omega,by omega,by omega,(h.2 4 _ rfl).1,(h.2 5 _ rfl).1⟩
 ·exact⟨0,1,by omega,by omega,by omega,by omega,(h.2 6 _ rfl).1,(h.2 7 _ rfl).1⟩
 ·exact⟨-1,1,by omega,by omega,by omega,by omega,(h.2 8 _ rfl).1,(h.2 9 _ rfl).1⟩
 ·exact⟨1,2,by omega,by omega,by omega,by omega,(h.2 10 _ rfl).1,(h.2 11 _ rfl).1⟩
 ·exact⟨2,1,by omega,by omega,by omega,by omega,(h.2 12 _ rfl).1,(h.2 13 _ rfl).1⟩
 ·exact⟨800,1001,by omega,by omega,by omega,by omega,(h.2 14 _ rfl).1,(h.2 15 _ rfl).1⟩
 ·exact⟨-3,2,by omega,by omega,by omega,by omega,(h.2 16 _ rfl).1,(h.2 17 _ rfl).1⟩
set_option maxHeartbeats 4000000 in
theorem speed_any (T:Nat) (a:Option Addr) (cap:Nat) (xs:List Int) (k:Nat) (w:World) (hT:Tape w T a cap xs k) (hk:k≤100000) :
  Calls Tryz.prog 164 #[.pointer (some ⟨T,0,none⟩)] w fun e w'=>∃ n d:Int,e=.returned (.agg #[.int .i64 n,.int .i64 d])∧-2000≤n∧n≤2000∧0≤d∧d≤2000∧ByT w T w'∧Tape w' T a cap xs (k+1):=by
 have HN:Hid (∀ w1,Gr w w1→Calls Tryz.prog 33 #[.pointer (some ⟨T,0,none⟩),.int .i64 9] w1 fun e w'=>∃ r:Int,e=.returned (.int .i64 r)∧0≤r∧r<9∧w1.grownBy w' (some T)∧Tape w' T a cap xs (k+1)):=Lib.hid fun w1 hg=>next_any T a cap xs k 9 w1 (hT.gr hg) (by omega) (by omega) (by omega)
 have hTl:=hT.cel.lt
 have hT0:=Lib.hid hT
 clear hT
 have hc:=Cel.new (w.alloc (.cells #[.int .i64 0,.int .i64 0] 77)) speedsV.toArray 77
 have hr:=(Cel.new w #[.int .i64 0,.int .i64 0] 77).alloc (.cells speedsV.toArray 77)
 have hgA:Gr w ((w.alloc (.cells #[.int .i64 0,.int .i64 0] 77)).alloc (.cells speedsV.toArray 77)):=((Gr.refl w).alloc _).alloc _
 rw [show (w.alloc (.cells #[.int .i64 0,.int .i64 0] 77)).heap.size=w.heap.size+1 by simp] at hc
 simp only [List.toArray] at hc hr hgA
 go_enter Tryz.func164,Tryz.ntmps164
 go_wp2_with (go_at_call 33;(with_reducible refine (HN.out _ hgA).mono ?_);rintro e w3 ⟨r,rfl,r0,r9,hg3,hT3⟩;obtain⟨rn,rfl⟩:∃ rn:Nat,r=rn:=⟨r.toNat,by omega⟩;have hc3:=hc.grown hg3 (fun e=>by injection e with e;omega);have hr3:=hr.grown hg3 (fun e=>by injection e with e;omega);have rl:=hr3.lt;have cl:=hc3.lt;obtain⟨n,d,n0,n1,d0,d1,e0,e1⟩:=speed_at hc3 (show rn<9 by omega);obtain⟨z0,f0⟩:=hr3.2 0 _ rfl;obtain⟨z1,f1⟩:=hr3.2 1 _ rfl;have hrl:rn<9:=by omega)
 simp [bodyPost,results,Tryz.results164,go_sem,z0,z1]
 have hB:ByT w T w3:=((ByT.refl w T).gr hgA).step hg3 (fun k h=>by injection h with h;exact .inl h.symm)
 refine⟨n,d,⟨rfl,rfl⟩,n0,n1,d0,d1,(hB.set (Nat.le_refl _) _).set (Nat.le_refl _) _,?_⟩
 exact Tape.later hT0.out (grown_setCell _ _ _) (fun h=>by injection h with h;simp only at h;omega) (fun k h=>by injection h with h;simp only at h;omega) (Tape.later hT0.out (grown_setCell _ _ _) (fun h=>by injection h with h;simp only at h;omega) (fun k h=>by injection h with h;simp only at h;omega) hT3)
set_option maxHeartbeats 4000000 in
theorem name_any (s:ByteArray) (n:Int) (w:World) (hs:s.size≤1000) (h0:0≤n) (h9:n≤9) :
  Calls Tryz.prog 165 #[.string s,.int .i64 n] w fun e w'=>∃ t:ByteArray,e=.returned (.string t)∧t.size≤2000∧w'=w:=by
 have hE:(Utf8.encode (48+n)).size≤1:=by
  rcases (show n=0∨n=1∨n=2∨n=3∨n=4∨n=5∨n=6∨n=7∨n=8∨n=9 by omega) with rfl | rfl | rfl | rfl | rfl | rfl | rfl | rfl | rfl | rfl <;> decide
 have hq:¬ 9223372036854775807<s.size+(Utf8.encode (48+n)).size:=by omega
 go_enter Tryz.func165,Tryz.ntmps165
 go_wp2
 go_ret
 exact⟨_,rfl,by rw [ByteArray.size_append];omega,rfl⟩
theorem densAt {W:World} {G rn:Nat} (h:Cel W G [.int .i64 1,.int .i64 1,.int .i64 1,.int .i64 2,.int .i64 3,.int .i64 1001]) (hr:rn<6):∃ d:Int,1≤d∧d≤1001∧W.cell? ⟨G,rn,none⟩=some (.int .i64 d):=by
 rcases (show rn=0∨rn=1∨rn=2∨rn=3∨rn=4∨rn=5 by omega) with rfl | rfl | rfl | rfl | rfl | rfl
 ·exact⟨1,by omega,by omega,(h.2 0 _ rfl).1⟩
 ·exact⟨1,by omega,by omega,(h.2 1 _ rfl).1⟩
 ·exact⟨1,by omega,by omega,(h.2 2 _ rfl).1⟩
 ·exact⟨2,by omega,by omega,(h.2 3 _ rfl).1⟩
 ·exact⟨3,by omega,by omega,(h.2 4 _ rfl).1⟩
 ·exact⟨1001,by omega,by omega,(h.2 5 _ rfl).1⟩
set_option maxHeartbeats 4000000 in
theorem rat_any (T:Nat) (a:Option Addr) (cap:Nat) (xs:List Int) (k:Nat) (w:World) (hT:Tape w T a cap xs k) (hk:k≤100000) :
  Calls Tryz.prog 163 #[.pointer (some ⟨T,0,none⟩),.int .i64 40] w fun e w'=>∃ n d:Int,e=.returned (.agg #[.int .i64 n,.int .i64 d])∧-2000≤n∧n≤2000∧0≤d∧d≤2000∧ByT w T w'∧Tape w' T a cap xs (k+2):=by
 have HN:Hid (∀ (w':World) (k':Nat) (n:Int),Tape w' T a cap xs k'→k'≤1000000→1≤n→n≤2147483647→Calls Tryz.prog 33 #[.pointer (some ⟨T,0,none⟩),.int .i64 n] w' fun e w''=>∃ r:Int,e=.returned (.int .i64 r)∧0≤r∧r<n∧w'.grownBy w'' (some T)∧Tape w'' T a cap xs (k'+1)):=fun w' k' n h1 h2 h3 h4=>next_any T a cap xs k' n w' h1 h2 h3 h4
 have hTl:=hT.cel.lt
 have hT0:=Lib.hid hT
 have hr:=(Cel.new w #[.int .i64 0,.int .i64 0] 77)
 have hgA:Gr w (w.alloc (.cells #[.int .i64 0,.int .i64 0] 77)):=(Gr.refl w).alloc _
 go_enter Tryz.func163,Tryz.ntmps163
 go_upto_region 1 with fail
 have hT1:=hT.gr hgA
 have hB1:=(ByT.refl w T).gr hgA
 clear hT hgA
 generalize w.alloc (.cells #[.int .i64 0,.int .i64 0] 77)=W at *
 go_cut [5,6] (fun t5 t6 wx=>∃ n d:Int,t5=.int .i64 n∧t6=.int .i64 d∧0≤n∧n<40∧1≤d∧d≤1001∧ByT w T wx∧Tape wx T a cap xs (k+2)∧Cel wx w.heap.size [.int .i64 0,.int .i64 0])
 case first=>
  have hgd:Gr W W.drew:=(Gr.refl W).drew
  refine wp_region_still (Keep 10 (fun _=>True)) 10 rfl (by kernel_rfl) ?_
  show stillAny _ _ _ _ _ _ #[false,false,false,false,false,false,false,false,false,false] _ _
  have hT2:=hT1.gr hgd
  have hB2:=hB1.gr hgd
  have hr2:=hr.gr hgd
  clear hT1 hB1 hr hgd
  generalize W.drew=U at *
  have hUl:=hr2.lt
  refine still_pure 0 (v:=.pointer (some ⟨T,0,none⟩)) rfl (by kernel_rfl) (by kernel_rfl) (by kernel_rfl) (fun _=>trivial) rfl (fun w hw=>?_) ?_
  ·simp [execOp,go_sem] <;> (intros;omega)
  simp only [Act.put,zI,zS,zZ]
  refine still_pure 1 (v:=.int .i64 40) rfl (by kernel_rfl) (by kernel_rfl) (by kernel_rfl) (fun _=>trivial) rfl (fun w hw=>?_) ?_
  ·simp [execOp,go_sem] <;> (intros;omega)
  simp only [Act.put,zI,zS,zZ]
  refine still_pure 4 (v:=.pointer (some ⟨T,0,none⟩)) rfl (by kernel_rfl) (by kernel_rfl) (by kernel_rfl) (fun _=>trivial) rfl (fun w hw=>?_) ?_
  ·simp [execOp,go_sem] <;> (intros;omega)
  simp only [Act.put,zI,zS,zZ]
  refine still_pick [2,3] (by kernel_rfl) (by decide) ?_
  intro i hi
  have hi:i=2∨i=3:=by simpa using hi
  rcases hi with rfl | rfl
  ·skip
   refine still_one (by rfl) (fun R hR=>?_)
   simp only [zG,zH,zK]
   go_wp2_with (go_at_call 33;(with_reducible refine (HN.out _ k 40 hT2 ?_ ?_ ?_).mono ?_);(· omega);(· omega);(· omega);rintro e w3 ⟨n,rfl,n0,n1,hgw3,hTw3⟩)
   refine only_normal (hR _ _ (Keep.step (fun h=>h)) ?_)
   clear hR R
   simp only [Act.put,zI,zS,zZ]
   have hr3:=hr2.grown hgw3 (fun e=>by injection e with e;omega)
   have hB3:=hB2.step hgw3 (fun k h=>by injection h with h;exact .inl h.symm)
   have hl3:=hr3.lt
   clear hr2 hB2 hT2
   refine still_pick [3,5] (by kernel_rfl) (by decide) ?_
   intro i hi
   have hi:i=3∨i=5:=by simpa using hi
   rcases hi with rfl | rfl
   ·skip
    refine still_one (by rfl) (fun R hR=>?_)
    simp only [zG,zH,zK]
    go_wp2_with fail
    refine only_normal (hR _ _ (Keep.step (fun h=>h)) ?_)
    clear hR R
    simp only [Act.put,zI,zS,zZ]
    have hr4:=hr3.gr ((Gr.refl w3).alloc (.cells #[.int .i64 1,.int .i64 1,.int .i64 1,.int .i64 2,.int .i64 3,.int .i64 1001] 2))
    have hB4:=hB3.gr ((Gr.refl w3).alloc (.cells #[.int .i64 1,.int .i64 1,.int .i64 1,.int .i64 2,.int .i64 3,.int .i64 1001] 2))
    have hD4:=Cel.new w3 #[.int .i64 1,.int .i64 1,.int .i64 1,.int .i64 2,.int .i64 3,.int .i64 1001] 2
    have hl4:=hr4.lt
    have hT4:=hTw3.gr ((Gr.refl w3).alloc (.cells #[.int .i64 1,.int .i64 1,.int .i64 1,.int .i64 2,.int .i64 3,.int .i64 1001] 2))
    refine still_pick [5] (by kernel_rfl) (by decide) ?_
    intro i hi
    obtain rfl:i=5:=by simpa using hi
    refine still_one (by rfl) (fun R hR=>?_)
    simp only [zG,zH,zK]
    go_wp2_with (go_at_call 33;(with_reducible refine (HN.out _ (k+1) 6 hT4 ?_ ?_ ?_).mono ?_);(· omega);(· omega);(· omega);rintro e w5 ⟨r,rfl,r0,r1,hgw5,hTw5⟩)
    refine only_normal (hR _ _ (Keep.step (fun h=>h)) ?_)
    clear hR R
    simp only [Act.put,zI,zS,zZ]
    have hr5:=hr4.grown hgw5 (fun e=>by injection e with e;omega)
    have hB5:=hB4.step hgw5 (fun k h=>by injection h with h;exact .inl h.symm)
    have hl5:=hr5.lt
    have hD5:=hD4.grown hgw5 (fun e=>by injection e with e;omega)
    refine still_pure 8 (v:=.int .i64 n) rfl (by kernel_rfl) (by kernel_rfl) (by kernel_rfl) (fun _=>trivial) rfl (fun w hw=>?_) ?_
    ·simp [execOp,go_sem] <;> (intros;omega)
    simp only [Act.put,zI,zS,zZ]
    obtain⟨rn,rfl⟩:∃ rn:Nat,r=rn:=⟨r.toNat,by omega⟩
    have hrn:rn<6:=by omega
    obtain⟨d,d0,d1,e0⟩:=densAt hD5 hrn
    have hDl:=hD5.lt
    refine still_pick [6] (by kernel_rfl) (by decide) ?_
    intro i hi
    obtain rfl:i=6:=by simpa using hi
    refine still_one (by rfl) (fun R hR=>?_)
    simp only [zG,zH,zK]
    go_wp2_with fail
    refine only_normal (hR _ _ (Keep.step (fun h=>h)) ?_)
    clear hR R
    simp only [Act.put,zI,zS,zZ]
    refine still_pick [7] (by kernel_rfl) (by decide) ?_
    intro i hi
    obtain rfl:i=7:=by simpa using hi
    refine still_one (by rfl) (fun R hR=>?_)
    simp only [zG,zH,zK]
    go_wp2_with fail
    refine only_normal (hR _ _ (Keep.step (fun h=>h)) ?_)
    clear hR R
    simp only [Act.put,zI,zS,zZ]
    refine still_pick [9] (by kernel_rfl) (by decide) ?_
    intro i hi
    obtain rfl:i=9:=by simpa using hi
    refine still_one (by rfl) (fun R hR=>?_)
    simp only [zG,zH,zK]
    go_wp2_with fail
    refine only_normal (hR _ _ (Keep.step (fun h=>h)) ?_)
    clear hR R
    simp only [Act.put,zI,zS,zZ]
    refine still_done (by kernel_rfl) ?_
    go_wp2
    go_meet
    exact⟨n,d,rfl,rfl,by omega,by omega,by omega,by omega,hB5,hTw5,hr5⟩
   ·skip
    refine still_one (by rfl) (fun R hR=>?_)
    simp only [zG,zH,zK]
    go_wp2_with (go_at_call 33;(with_reducible refine (HN.out _ (k+1) 6 hTw3 ?_ ?_ ?_).mono ?_);(· omega);(· omega);(· omega);rintro e w5 ⟨r,rfl,r0,r1,hgw5,hTw5⟩)
    refine only_normal (hR _ _ (Keep.step (fun h=>h)) ?_)
    clear hR R
    simp only [Act.put,zI,zS,zZ]
    have hr5:=hr3.grown hgw5 (fun e=>by injection e with e;omega)
    have hB5:=hB3.step hgw5 (fun k h=>by injection h with h;exact .inl h.symm)
    have hl5:=hr5.lt
    refine still_pure 8 (v:=.int .i64 n) rfl (by kernel_rfl) (by kernel_rfl) (by kernel_rfl) (fun _=>trivial) rfl (fun w hw=>?_) ?_
    ·simp [execOp,go_sem] <;> (intros;omega)
    simp only [Act.put,zI,zS,zZ]
    refine still_pick [3] (by kernel_rfl) (by decide) ?_
    intro i hi
    obtain rfl:i=3:=by simpa using hi
    refine still_one (by rfl) (fun R hR=>?_)
    simp only [zG,zH,zK]
    go_wp2_with fail
    refine only_normal (hR _ _ (Keep.step (fun h=>h)) ?_)
    clear hR R
    simp only [Act.put,zI,zS,zZ]
    have hr6:=hr5.gr ((Gr.refl w5).alloc (.cells #[.int .i64 1,.int .i64 1,.int .i64 1,.int .i64 2,.int .i64 3,.int .i64 1001] 2))
    have hB6:=hB5.gr ((Gr.refl w5).alloc (.cells #[.int .i64 1,.int .i64 1,.int .i64 1,.int .i64 2,.int .i64 3,.int .i64 1001] 2))
    have hD6:=Cel.new w5 #[.int .i64 1,.int .i64 1,.int .i64 1,.int .i64 2,.int .i64 3,.int .i64 1001] 2
    have hl6:=hr6.lt
    obtain⟨rn,rfl⟩:∃ rn:Nat,r=rn:=⟨r.toNat,by omega⟩
    have hrn:rn<6:=by omega
    obtain⟨d,d0,d1,e0⟩:=densAt hD6 hrn
    have hDl:=hD6.lt
    refine still_pick [6] (by kernel_rfl) (by decide) ?_
    intro i hi
    obtain rfl:i=6:=by simpa using hi
    refine still_one (by rfl) (fun R hR=>?_)
    simp only [zG,zH,zK]
    go_wp2_with fail
    refine only_normal (hR _ _ (Keep.step (fun h=>h)) ?_)
    clear hR R
    simp only [Act.put,zI,zS,zZ]
    refine still_pick [7] (by kernel_rfl) (by decide) ?_
    intro i hi
    obtain rfl:i=7:=by simpa using hi
    refine still_one (by rfl) (fun R hR=>?_)
    simp only [zG,zH,zK]
    go_wp2_with fail
    refine only_normal (hR _ _ (Keep.step (fun h=>h)) ?_)
    clear hR R
    simp only [Act.put,zI,zS,zZ]
    refine still_pick [9] (by kernel_rfl) (by decide) ?_
    intro i hi
    obtain rfl:i=9:=by simpa using hi
    refine still_one (by rfl) (fun R hR=>?_)
    simp only [zG,zH,zK]
    go_wp2_with fail
    refine only_normal (hR _ _ (Keep.step (fun h=>h)) ?_)
    clear hR R
    simp only [Act.put,zI,zS,zZ]
    refine still_done (by kernel_rfl) ?_
    go_wp2
    go_meet
    exact⟨n,d,rfl,rfl,by omega,by omega,by omega,by omega,hB6,(hTw5.gr ((Gr.refl w5).alloc (.cells #[.int .i64 1,.int .i64 1,.int .i64 1,.int .i64 2,.int .i64 3,.int .i64 1001] 2))),hr6⟩
  ·skip
   refine still_one (by rfl) (fun R hR=>?_)
   simp only [zG,zH,zK]
   go_wp2_with fail
   refine only_normal (hR _ _ (Keep.step (fun h=>h)) ?_)
   clear hR R
   simp only [Act.put,zI,zS,zZ]
   have hr3:=hr2.gr ((Gr.refl U).alloc (.cells #[.int .i64 1,.int .i64 1,.int .i64 1,.int .i64 2,.int .i64 3,.int .i64 1001] 2))
   have hB3:=hB2.gr ((Gr.refl U).alloc (.cells #[.int .i64 1,.int .i64 1,.int .i64 1,.int .i64 2,.int .i64 3,.int .i64 1001] 2))
   have hD3:=Cel.new U #[.int .i64 1,.int .i64 1,.int .i64 1,.int .i64 2,.int .i64 3,.int .i64 1001] 2
   have hl3:=hr3.lt
   have hT3:=hT2.gr ((Gr.refl U).alloc (.cells #[.int .i64 1,.int .i64 1,.int .i64 1,.int .i64 2,.int .i64 3,.int .i64 1001] 2))
   refine still_pick [2] (by kernel_rfl) (by decide) ?_
   intro i hi
   obtain rfl:i=2:=by simpa using hi
   refine still_one (by rfl) (fun R hR=>?_)
   simp only [zG,zH,zK]
   go_wp2_with (go_at_call 33;(with_reducible refine (HN.out _ k 40 hT3 ?_ ?_ ?_).mono ?_);(· omega);(· omega);(· omega);rintro e w4 ⟨n,rfl,n0,n1,hgw4,hTw4⟩)
   refine only_normal (hR _ _ (Keep.step (fun h=>h)) ?_)
   clear hR R
   simp only [Act.put,zI,zS,zZ]
   have hr4:=hr3.grown hgw4 (fun e=>by injection e with e;omega)
   have hB4:=hB3.step hgw4 (fun k h=>by injection h with h;exact .inl h.symm)
   have hl4:=hr4.lt
   have hD4:=hD3.grown hgw4 (fun e=>by injection e with e;omega)
   refine still_pick [5] (by kernel_rfl) (by decide) ?_
   intro i hi
   obtain rfl:i=5:=by simpa using hi
   refine still_one (by rfl) (fun R hR=>?_)
   simp only [zG,zH,zK]
   go_wp2_with (go_at_call 33;(with_reducible refine (HN.out _ (k+1) 6 hTw4 ?_ ?_ ?_).mono ?_);(· omega);(· omega);(· omega);rintro e w5 ⟨r,rfl,r0,r1,hgw5,hTw5⟩)
   refine only_normal (hR _ _ (Keep.step (fun h=>h)) ?_)
   clear hR R
   simp only [Act.put,zI,zS,zZ]
   have hr5:=hr4.grown hgw5 (fun e=>by injection e with e;omega)
   have hB5:=hB4.step hgw5 (fun k h=>by injection h with h;exact .inl h.symm)
   have hl5:=hr5.lt
   have hD5:=hD4.grown hgw5 (fun e=>by injection e with e;omega)
   refine still_pure 8 (v:=.int .i64 n) rfl (by kernel_rfl) (by kernel_rfl) (by kernel_rfl) (fun _=>trivial) rfl (fun w hw=>?_) ?_
   ·simp [execOp,go_sem] <;> (intros;omega)
   simp only [Act.put,zI,zS,zZ]
   obtain⟨rn,rfl⟩:∃ rn:Nat,r=rn:=⟨r.toNat,by omega⟩
   have hrn:rn<6:=by omega
   obtain⟨d,d0,d1,e0⟩:=densAt hD5 hrn
   have hDl:=hD5.lt
   refine still_pick [6] (by kernel_rfl) (by decide) ?_
   intro i hi
   obtain rfl:i=6:=by simpa using hi
   refine still_one (by rfl) (fun R hR=>?_)
   simp only [zG,zH,zK]
   go_wp2_with fail
   refine only_normal (hR _ _ (Keep.step (fun h=>h)) ?_)
   clear hR R
   simp only [Act.put,zI,zS,zZ]
   refine still_pick [7] (by kernel_rfl) (by decide) ?_
   intro i hi
   obtain rfl:i=7:=by simpa using hi
   refine still_one (by rfl) (fun R hR=>?_)
   simp only [zG,zH,zK]
   go_wp2_with fail
   refine only_normal (hR _ _ (Keep.step (fun h=>h)) ?_)
   clear hR R
   simp only [Act.put,zI,zS,zZ]
   refine still_pick [9] (by kernel_rfl) (by decide) ?_
   intro i hi
   obtain rfl:i=9:=by simpa using hi
   refine still_one (by rfl) (fun R hR=>?_)
   simp only [zG,zH,zK]
   go_wp2_with fail
   refine only_normal (hR _ _ (Keep.step (fun h=>h)) ?_)
   clear hR R
   simp only [Act.put,zI,zS,zZ]
   refine still_done (by kernel_rfl) ?_
   go_wp2
   go_meet
   exact⟨n,d,rfl,rfl,by omega,by omega,by omega,by omega,hB5,hTw5,hr5⟩
 case rest=>
  obtain⟨n,d,rfl,rfl,n0,n1,d0,d1,hB,hTx,hrx⟩:=hcut
  clear hT1 hB1 hr
  have hl:=hrx.lt
  go_wp2
  go_loopw [7,8] (fun g x wr=>∃ gi xi:Int,g=.int .i64 gi∧x=.int .i64 xi∧0≤gi∧gi≤1001∧0≤xi∧xi≤1001∧1≤gi+xi∧Gr wc wr) (fun _ x _=>(RowKit.intOf x).toNat)
  case atStart=>exact⟨n,d,rfl,rfl,by omega,by omega,by omega,by omega,by omega,Gr.refl _⟩
  case round=>
   obtain⟨g,x,rfl,rfl,g0,g1,x0,x1,gx,hg⟩:=hrel
   by_cases c1:x=0
   ·have q1:(x != 0)=false:=by simp [c1]
    subst c1
    have hB3:=hB.gr hg
    have hT3:=hTx.gr hg
    have hr3:=hrx.gr hg
    have hl3:=hr3.lt
    obtain⟨z0,f0⟩:=hr3.2 0 _ rfl
    obtain⟨z1,f1⟩:=hr3.2 1 _ rfl
    by_cases c2:n=0
    ·have q2:(n == 0)=true:=by simp [c2]
     go_wp2
     simp [bodyPost,results,Tryz.results163,go_sem,z0,z1]
     refine⟨0,1,⟨rfl,rfl⟩,by omega,by omega,by omega,by omega,(hB3.set (Nat.le_refl _) _).set (Nat.le_refl _) _,?_⟩
     exact Tape.later hT0.out (grown_setCell _ _ _) (fun h=>by injection h with h;simp only at h;omega) (fun k h=>by injection h with h;simp only at h;omega) (Tape.later hT0.out (grown_setCell _ _ _) (fun h=>by injection h with h;simp only at h;omega) (fun k h=>by injection h with h;simp only at h;omega) hT3)
    ·have q2:(n == 0)=false:=by simp [c2]
     have e1:0≤n.tdiv g∧n.tdiv g≤40:=by
      rw [Int.tdiv_eq_ediv_of_nonneg (by omega)]
      exact⟨Int.ediv_nonneg (by omega) (by omega),Int.le_trans (Int.ediv_le_self _ (by omega)) (by omega)⟩
     have e2:0≤d.tdiv g∧d.tdiv g≤1001:=by
      rw [Int.tdiv_eq_ediv_of_nonneg (by omega)]
      exact⟨Int.ediv_nonneg (by omega) (by omega),Int.le_trans (Int.ediv_le_self _ (by omega)) (by omega)⟩
     have hg0:¬ g=0:=by omega
     go_wp2
     have hgd:Gr wr wr.drew:=(Gr.refl wr).drew
     refine wp_region_still (Keep 7 (fun _=>True)) 8 rfl (by kernel_rfl) ?_
     show stillAny _ _ _ _ _ _ #[false,false,false,false,false,false,false,false] _ _
     have hB4:=hB3.gr hgd
     have hT4:=hT3.gr hgd
     have hr4:=hr3.gr hgd
     clear hB3 hT3 hr3 hgd z0 z1 f0 f1 hl3
     generalize wr.drew=U at *
     have hl4:=hr4.lt
     obtain⟨z0,f0⟩:=hr4.2 0 _ rfl
     obtain⟨z1,f1⟩:=hr4.2 1 _ rfl
     refine still_pure 0 (v:=.int .i64 n) rfl (by kernel_rfl) (by kernel_rfl) (by kernel_rfl) (fun _=>trivial) rfl (fun w hw=>?_) ?_
     ·simp [execOp,go_sem] <;> (intros;omega)
     simp only [Act.put,zI,zS,zZ]
     refine still_pure 1 (v:=.int .i64 g) rfl (by kernel_rfl) (by kernel_rfl) (by kernel_rfl) (fun _=>trivial) rfl (fun w hw=>?_) ?_
     ·simp [execOp,go_sem] <;> (intros;omega)
     simp only [Act.put,zI,zS,zZ]
     refine still_pure 3 (v:=.int .i64 d) rfl (by kernel_rfl) (by kernel_rfl) (by kernel_rfl) (fun _=>trivial) rfl (fun w hw=>?_) ?_
     ·simp [execOp,go_sem] <;> (intros;omega)
     simp only [Act.put,zI,zS,zZ]
     refine still_pure 4 (v:=.int .i64 g) rfl (by kernel_rfl) (by kernel_rfl) (by kernel_rfl) (fun _=>trivial) rfl (fun w hw=>?_) ?_
     ·simp [execOp,go_sem] <;> (intros;omega)
     simp only [Act.put,zI,zS,zZ]
     have hw1:IntKind.i64.wrap (n.tdiv g)=n.tdiv g:=by rw [IntKind.wrap_i64];omega
     have hw2:IntKind.i64.wrap (d.tdiv g)=d.tdiv g:=by rw [IntKind.wrap_i64];omega
     refine still_pure 2 (v:=.int .i64 (n.tdiv g)) rfl (by kernel_rfl) (by kernel_rfl) (by kernel_rfl) (fun _=>trivial) rfl (fun w hw=>?_) ?_
     ·simp [execOp,go_sem,hg0,hw1]
     simp only [Act.put,zI,zS,zZ]
     refine still_pure 5 (v:=.int .i64 (d.tdiv g)) rfl (by kernel_rfl) (by kernel_rfl) (by kernel_rfl) (fun _=>trivial) rfl (fun w hw=>?_) ?_
     ·simp [execOp,go_sem,hg0,hw2]
     simp only [Act.put,zI,zS,zZ]
     refine still_pure 6 (v:=.agg #[.int .i64 (n.tdiv g),.int .i64 (d.tdiv g)]) rfl (by kernel_rfl) (by kernel_rfl) (by kernel_rfl) (fun _=>trivial) rfl (fun w hw=>?_) ?_
     ·simp [execOp,go_sem] <;> (intros;omega)
     simp only [Act.put,zI,zS,zZ]
     refine still_pick [7] (by kernel_rfl) (by decide) ?_
     intro i hi
     obtain rfl:i=7:=by simpa using hi
     refine still_one (by first | (simp only [List.getElem?_toArray,List.getElem?_cons_succ,List.getElem?_cons_zero];rfl) | rfl) (fun R hR=>?_)
     (try simp only [zG,zH,zK])
     go_wp2_with fail
     refine only_normal (hR _ _ (Keep.step (fun h=>h)) ?_)
     clear hR R
     simp only [Act.put,zI,zS,zZ]
     refine still_done (by kernel_rfl) ?_
     go_wp2
     simp [bodyPost,results,Tryz.results163,go_sem,z0,z1]
     refine⟨n.tdiv g,d.tdiv g,⟨rfl,rfl⟩,by omega,by omega,by omega,by omega,(hB4.set (Nat.le_refl _) _).set (Nat.le_refl _) _,?_⟩
     exact Tape.later hT0.out (grown_setCell _ _ _) (fun h=>by injection h with h;simp only at h;omega) (fun k h=>by injection h with h;simp only at h;omega) (Tape.later hT0.out (grown_setCell _ _ _) (fun h=>by injection h with h;simp only at h;omega) (fun k h=>by injection h with h;simp only at h;omega) hT4)
   ·have q1:(x != 0)=true:=by simp [c1]
    have m1:=Int.emod_lt_of_pos g (show 0<x by omega)
    have m2:=Int.emod_nonneg g (show x≠0 by omega)
    go_wp2
    refine wp_region_gr (by kernel_rfl) (by kernel_rfl) (fun hq1 hq2=>?_)
    repeat (first | go_big_quiet_skip | (go_big_quiet_want;go_big_quiet_op;first | go_big_quiet_on | (apply Exists.intro;refine⟨fun _=>?_,?_⟩;(· (fail));go_big_quiet_on)))
    refine wpQuiet_nil ?_
    clear hq1 hq2
    rintro w1 ⟨⟨_,hg1⟩,rfl⟩
    obtain⟨hc1,hf1⟩:=hg1.cells
    have hz1:=hg1.size
    (try simp at hz1);(try have hl1_0_0:w.heap.size<w1.heap.size:=by omega);(try have hm1_0_0:w.heap.size≤w1.heap.size:=by omega);(try have hl1_0_1:w.heap.size+1<w1.heap.size:=by omega);(try have hl1_0_2:w.heap.size+2<w1.heap.size:=by omega)
    go_wp2
    go_roundw
    case rel=>exact⟨x,g % x,rfl,rfl,by omega,by omega,by omega,by omega,by omega,(by repeat (first | with_reducible exact Gr.refl _ | with_reducible assumption | refine Gr.setCell ?_ (by first | omega | (simp;done) | (simp;omega)) _ | refine Gr.alloc ?_ _ | refine Gr.drew ?_ | refine Gr.drewN ?_ _ | refine Gr.trans ?_ (by with_reducible assumption)))⟩
    case measure=>simp [RowKit.intOf];omega
structure SrM (s:Sr):Prop where
 k:0≤s.k∧s.k≤2
 nm:s.nm.size≤2000
 an:-2000≤s.an∧s.an≤2000
 ad:0≤s.ad∧s.ad≤2000
 sn:-2000≤s.sn∧s.sn≤2000
 sd:0≤s.sd∧s.sd≤2000
theorem SrM.blk:SrM blkS:=⟨by decide,by decide,by decide,by decide,by decide,by decide⟩
set_option maxRecDepth 20000 in
set_option maxHeartbeats 8000000 in
theorem source_any (T:Nat) (a:Option Addr) (cap:Nat) (xs:List Int) (k:Nat) (w:World) (hT:Tape w T a cap xs k) (hk:k≤10000) :
  Calls Tryz.prog 124 #[.pointer (some ⟨T,0,none⟩),.int .i64 3,.int .i64 2] w fun e w'=>∃ (s:Sr) (k':Nat),e=.returned (.agg s.cells.toArray)∧SrM s∧ByT w T w'∧Tape w' T a cap xs k'∧k≤k'∧k'≤k+6:=by
 have HN:Hid (∀ (w':World) (k':Nat) (n:Int),Tape w' T a cap xs k'→k'≤1000000→1≤n→n≤2147483647→Calls Tryz.prog 33 #[.pointer (some ⟨T,0,none⟩),.int .i64 n] w' fun e w''=>∃ r:Int,e=.returned (.int .i64 r)∧0≤r∧r<n∧w'.grownBy w'' (some T)∧Tape w'' T a cap xs (k'+1)):=fun w' k' n h1 h2 h3 h4=>next_any T a cap xs k' n w' h1 h2 h3 h4
 have HS:Hid (∀ (w':World) (k':Nat),Tape w' T a cap xs k'→k'≤100000→Calls Tryz.prog 164 #[.pointer (some ⟨T,0,none⟩)] w' fun e w''=>∃ n d:Int,e=.returned (.agg #[.int .i64 n,.int .i64 d])∧-2000≤n∧n≤2000∧0≤d∧d≤2000∧ByT w' T w''∧Tape w'' T a cap xs (k'+1)):=Lib.hid fun w' k' h1 h2=>speed_any T a cap xs k' w' h1 h2
 have HR:Hid (∀ (w':World) (k':Nat),Tape w' T a cap xs k'→k'≤100000→Calls Tryz.prog 163 #[.pointer (some ⟨T,0,none⟩),.int .i64 40] w' fun e w''=>∃ n d:Int,e=.returned (.agg #[.int .i64 n,.int .i64 d])∧-2000≤n∧n≤2000∧0≤d∧d≤2000∧ByT w' T w''∧Tape w'' T a cap xs (k'+2)):=Lib.hid fun w' k' h1 h2=>rat_any T a cap xs k' w' h1 h2
 have HM:Hid (∀ (s:ByteArray) (n:Int) (w':World),s.size≤1000→0≤n→n≤9→Calls Tryz.prog 165 #[.string s,.int .i64 n] w' fun e w''=>∃ t:ByteArray,e=.returned (.string t)∧t.size≤2000∧w''=w'):=Lib.hid fun s n w' h1 h2 h3=>name_any s n w' h1 h2 h3
 have hTl:=hT.cel.lt
 have hT0:=Lib.hid hT
 have hr:=Blk.new w [.int .i64 0,.string ⟨#[]⟩,.int .i64 0,.int .i64 0,.int .i64 0,.int .i64 0,.bool false] 79
 have hgA:Gr w (w.alloc (.cells #[.int .i64 0,.string ⟨#[]⟩,.int .i64 0,.int .i64 0,.int .i64 0,.int .i64 0,.bool false] 79)):=(Gr.refl w).alloc _
 go_enter Tryz.func124,Tryz.ntmps124
 go_upto_region 1 with fail
 have hT1:=hT.gr hgA
 have hB1:=(ByT.refl w T).gr hgA
 clear hT hgA
 simp only [List.toArray] at hr
 generalize w.alloc (.cells #[.int .i64 0,.string ⟨#[]⟩,.int .i64 0,.int .i64 0,.int .i64 0,.int .i64 0,.bool false] 79)=W at *
 go_upto_region 2 with (go_at_call 33;(with_reducible refine (HN.out _ k 8 hT1 ?_ ?_ ?_).mono ?_);(· omega);(· omega);(· omega);rintro e w2 ⟨q,rfl,q0,q8,hg2,hT2⟩)
 have hB2:=hB1.step hg2 (fun k h=>by injection h with h;exact .inl h.symm)
 have hr2:=hr.grown hg2 (fun e=>by injection e with e;omega)
 clear hT1 hB1 hr hg2
 have fin:Hid (∀ (v0 v1 v2 v3 v4 v5 v6:Value) (k':Nat) (wx:World),ByT w T wx→Tape wx T a cap xs k'→ByT w T (((((((wx.setCell ⟨w.heap.size,0,none⟩ v0).setCell ⟨w.heap.size,1,none⟩ v1).setCell ⟨w.heap.size,2,none⟩ v2).setCell ⟨w.heap.size,3,none⟩ v3).setCell ⟨w.heap.size,4,none⟩ v4).setCell ⟨w.heap.size,5,none⟩ v5).setCell ⟨w.heap.size,6,none⟩ v6)∧Tape (((((((wx.setCell ⟨w.heap.size,0,none⟩ v0).setCell ⟨w.heap.size,1,none⟩ v1).setCell ⟨w.heap.size,2,none⟩ v2).setCell ⟨w.heap.size,3,none⟩ v3).setCell ⟨w.heap.size,4,none⟩ v4).setCell ⟨w.heap.size,5,none⟩ v5).setCell ⟨w.heap.size,6,none⟩ v6) T a cap xs k'):=by
  refine Lib.hid fun v0 v1 v2 v3 v4 v5 v6 k' wx hB hT=>⟨?_,?_⟩
  ·exact ((((((hB.set (Nat.le_refl _) _).set (Nat.le_refl _) _).set (Nat.le_refl _) _).set (Nat.le_refl _) _).set (Nat.le_refl _) _).set (Nat.le_refl _) _).set (Nat.le_refl _) _
  ·have st:∀ (wy:World) (i:Nat) (u:Value),Tape wy T a cap xs k'→Tape (wy.setCell ⟨w.heap.size,i,none⟩ u) T a cap xs k':=fun wy i u h=>Tape.later hT0.out (grown_setCell _ _ _) (fun h=>by injection h with h;simp only at h;omega) (fun k h=>by injection h with h;simp only at h;omega) h
   exact st _ _ _ (st _ _ _ (st _ _ _ (st _ _ _ (st _ _ _ (st _ _ _ (st _ _ _ hT))))))
 by_cases c0:q=0
 ·subst c0
  have hl2:=hr2.lt
  obtain⟨z0,f0⟩:=hr2.cel.2 0 _ rfl
  obtain⟨z1,f1⟩:=hr2.cel.2 1 _ rfl
  obtain⟨z2,f2⟩:=hr2.cel.2 2 _ rfl
  obtain⟨z3,f3⟩:=hr2.cel.2 3 _ rfl
  obtain⟨z4,f4⟩:=hr2.cel.2 4 _ rfl
  obtain⟨z5,f5⟩:=hr2.cel.2 5 _ rfl
  obtain⟨z6,f6⟩:=hr2.cel.2 6 _ rfl
  go_wp2
  simp [bodyPost,results,Tryz.results124,go_sem,z0,z1,z2,z3,z4,z5,z6]
  exact⟨blkS,rfl,SrM.blk,(fin.out _ _ _ _ _ _ _ (k+1) _ hB2 hT2).1,k+1,(fin.out _ _ _ _ _ _ _ (k+1) _ hB2 hT2).2,by omega,by omega⟩
 ·have q1:(q == 0)=false:=by simp [c0]
  go_upto_region 5 with (first
   | (go_at_call 163;(with_reducible refine (HR.out _ _ hT2 ?_).mono ?_);(· omega);rintro e w3 ⟨an,ad,rfl,a0,a1,a2,a3,hg3,hT3⟩)
   | (go_at_call 164;(with_reducible refine (HS.out _ _ hT3 ?_).mono ?_);(· omega);rintro e w4 ⟨sn,sd,rfl,s0,s1,s2,s3,hg4,hT4⟩)
   | (go_at_call 33;(with_reducible refine (HN.out _ _ 5 hT4 ?_ ?_ ?_).mono ?_);(· omega);(· omega);(· omega);rintro e w5 ⟨r,rfl,r0,r5,hg5,hT5⟩))
  have hr5:=((hr2.grown hg3 (fun e=>by injection e with e;omega)).grown hg4 (fun e=>by injection e with e;omega)).grown hg5 (fun e=>by injection e with e;omega)
  have hB5:=((hB2.step hg3 (fun k h=>by injection h with h;exact .inl h.symm)).step hg4 (fun k h=>by injection h with h;exact .inl h.symm)).step hg5 (fun k h=>by injection h with h;exact .inl h.symm)
  obtain⟨bb,hbb⟩:∃ bb,(r == 0)=bb:=⟨_,rfl⟩
  rw [hbb]
  have hl5:=hr5.lt
  have hgn:Gr w5 (w5.alloc (.cells #[.int .i64 1,.string ⟨#[]⟩,.int .i64 an,.int .i64 ad,.int .i64 sn,.int .i64 sd,.bool bb] 79)):=(Gr.refl w5).alloc _
  have hbZ:=Blk.new w5 [.int .i64 1,.string ⟨#[]⟩,.int .i64 an,.int .i64 ad,.int .i64 sn,.int .i64 sd,.bool bb] 79
  simp only [List.toArray] at hbZ
  replace hr5:=hr5.gr hgn
  replace hB5:=hB5.gr hgn
  have hT5':=hT5.gr hgn
  clear hT2 hB2 hr2 hg3 hT3 hg4 hT4 hg5 hT5 hgn hbb
  generalize w5.alloc (.cells #[.int .i64 1,.string ⟨#[]⟩,.int .i64 an,.int .i64 ad,.int .i64 sn,.int .i64 sd,.bool bb] 79)=W5 at *
  obtain⟨Z,hZ⟩:∃ Z,w5.heap.size=Z:=⟨_,rfl⟩
  rw [hZ] at hbZ hl5 ⊢
  clear hZ
  have hzl:=hbZ.lt
  have hTZ:T<Z:=by omega
  obtain⟨zz0,ff0⟩:=hbZ.cel.2 0 _ rfl
  obtain⟨zz1,ff1⟩:=hbZ.cel.2 1 _ rfl
  by_cases c1:q=1
  ·have q2:(q == 1)=true:=by simp [c1]
   go_upto_region 10 with (first
    | (go_at_call 33;(with_reducible refine (HN.out _ _ 2 hT5' ?_ ?_ ?_).mono ?_);(· omega);(· omega);(· omega);rintro e w6 ⟨m,rfl,m0,m1,hg6,hT6⟩)
    | (go_at_call 165;(with_reducible refine (HM.out _ _ _ ?_ ?_ ?_).mono ?_);(· decide);(· omega);(· omega);rintro e w7 ⟨t,rfl,ht,rfl⟩;have hb6:=hbZ.grown hg6 (fun e=>by injection e with e;omega);have y:=hb6.lt;obtain⟨y0,g0⟩:=hb6.cel.2 0 _ rfl;obtain⟨y1,g1⟩:=hb6.cel.2 1 _ rfl))
   have hbE:=((hb6.set 0 (.int .i64 2)).set 1 (.string t))
   simp only [zS,zZ] at hbE
   have hrE:=(((hr5.grown hg6 (fun e=>by injection e with e;omega)).other (p:=⟨Z,0,none⟩) (by simp only;omega) (.int .i64 2)).other (p:=⟨Z,1,none⟩) (by simp only;omega) (.string t))
   have hBE:=(((hB5.step hg6 (fun k h=>by injection h with h;exact .inl h.symm)).set (p:=⟨Z,0,none⟩) (by simp only;omega) (.int .i64 2)).set (p:=⟨Z,1,none⟩) (by simp only;omega) (.string t))
   have hTE:Tape ((w7.setCell ⟨Z,0,none⟩ (.int .i64 2)).setCell ⟨Z,1,none⟩ (.string t)) T a cap xs _:=(Tape.later hT0.out (grown_setCell _ ⟨Z,1,none⟩ (.string t)) (fun h=>by injection h with h;simp only at h;omega) (fun k h=>by injection h with h;simp only at h;omega) (Tape.later hT0.out (grown_setCell _ ⟨Z,0,none⟩ (.int .i64 2)) (fun h=>by injection h with h;simp only at h;omega) (fun k h=>by injection h with h;simp only at h;omega) hT6))
   clear hb6 hr5 hB5 hT5' hT6 hg6 hbZ y0 g0 y1 g1 zz0 zz1 ff0 ff1
   generalize ((w7.setCell ⟨Z,0,none⟩ (.int .i64 2)).setCell ⟨Z,1,none⟩ (.string t))=W7 at *
   have hl7:=hrE.lt
   have y:=hbE.lt
   obtain⟨z0,f0⟩:=hrE.cel.2 0 _ rfl
   have y0:=(hbE.cel.2 0 _ rfl).1
   obtain⟨z1,f1⟩:=hrE.cel.2 1 _ rfl
   have y1:=(hbE.cel.2 1 _ rfl).1
   obtain⟨z2,f2⟩:=hrE.cel.2 2 _ rfl
   have y2:=(hbE.cel.2 2 _ rfl).1
   obtain⟨z3,f3⟩:=hrE.cel.2 3 _ rfl
   have y3:=(hbE.cel.2 3 _ rfl).1
   obtain⟨z4,f4⟩:=hrE.cel.2 4 _ rfl
   have y4:=(hbE.cel.2 4 _ rfl).1
   obtain⟨z5,f5⟩:=hrE.cel.2 5 _ rfl
   have y5:=(hbE.cel.2 5 _ rfl).1
   obtain⟨z6,f6⟩:=hrE.cel.2 6 _ rfl
   have y6:=(hbE.cel.2 6 _ rfl).1
   go_wp2
   simp [bodyPost,results,Tryz.results124,go_sem,z0,z1,z2,z3,z4,z5,z6]
   exact⟨⟨2,t,an,ad,sn,sd,bb⟩,rfl,⟨⟨by simp only;omega,by simp only;omega⟩,ht,⟨a0,a1⟩,⟨a2,a3⟩,⟨s0,s1⟩,⟨s2,s3⟩⟩,(fin.out _ _ _ _ _ _ _ _ _ hBE hTE).1,_,(fin.out _ _ _ _ _ _ _ _ _ hBE hTE).2,by omega,by omega⟩
  ·have q2:(q == 1)=false:=by simp [c1]
   go_upto_region 10 with (first
    | (go_at_call 33;(with_reducible refine (HN.out _ _ 3 hT5' ?_ ?_ ?_).mono ?_);(· omega);(· omega);(· omega);rintro e w6 ⟨m,rfl,m0,m1,hg6,hT6⟩)
    | (go_at_call 165;(with_reducible refine (HM.out _ _ _ ?_ ?_ ?_).mono ?_);(· decide);(· omega);(· omega);rintro e w7 ⟨t,rfl,ht,rfl⟩;have hb6:=hbZ.grown hg6 (fun e=>by injection e with e;omega);have y:=hb6.lt;obtain⟨y0,g0⟩:=hb6.cel.2 0 _ rfl;obtain⟨y1,g1⟩:=hb6.cel.2 1 _ rfl))
   have hbE:=(hb6.set 1 (.string t))
   simp only [zS,zZ] at hbE
   have hrE:=((hr5.grown hg6 (fun e=>by injection e with e;omega)).other (p:=⟨Z,1,none⟩) (by simp only;omega) (.string t))
   have hBE:=((hB5.step hg6 (fun k h=>by injection h with h;exact .inl h.symm)).set (p:=⟨Z,1,none⟩) (by simp only;omega) (.string t))
   have hTE:Tape (w7.setCell ⟨Z,1,none⟩ (.string t)) T a cap xs _:=(Tape.later hT0.out (grown_setCell _ ⟨Z,1,none⟩ (.string t)) (fun h=>by injection h with h;simp only at h;omega) (fun k h=>by injection h with h;simp only at h;omega) hT6)
   clear hb6 hr5 hB5 hT5' hT6 hg6 hbZ y0 g0 y1 g1 zz0 zz1 ff0 ff1
   generalize (w7.setCell ⟨Z,1,none⟩ (.string t))=W7 at *
   have hl7:=hrE.lt
   have y:=hbE.lt
   obtain⟨z0,f0⟩:=hrE.cel.2 0 _ rfl
   have y0:=(hbE.cel.2 0 _ rfl).1
   obtain⟨z1,f1⟩:=hrE.cel.2 1 _ rfl
   have y1:=(hbE.cel.2 1 _ rfl).1
   obtain⟨z2,f2⟩:=hrE.cel.2 2 _ rfl
   have y2:=(hbE.cel.2 2 _ rfl).1
   obtain⟨z3,f3⟩:=hrE.cel.2 3 _ rfl
   have y3:=(hbE.cel.2 3 _ rfl).1
   obtain⟨z4,f4⟩:=hrE.cel.2 4 _ rfl
   have y4:=(hbE.cel.2 4 _ rfl).1
   obtain⟨z5,f5⟩:=hrE.cel.2 5 _ rfl
   have y5:=(hbE.cel.2 5 _ rfl).1
   obtain⟨z6,f6⟩:=hrE.cel.2 6 _ rfl
   have y6:=(hbE.cel.2 6 _ rfl).1
   go_wp2
   simp [bodyPost,results,Tryz.results124,go_sem,z0,z1,z2,z3,z4,z5,z6]
   exact⟨⟨1,t,an,ad,sn,sd,bb⟩,rfl,⟨⟨by simp only;omega,by simp only;omega⟩,ht,⟨a0,a1⟩,⟨a2,a3⟩,⟨s0,s1⟩,⟨s2,s3⟩⟩,(fin.out _ _ _ _ _ _ _ _ _ hBE hTE).1,_,(fin.out _ _ _ _ _ _ _ _ _ hBE hTE).2,by omega,by omega⟩
structure ClM (c:Cl):Prop where
 len:1≤c.len∧c.len≤9
 kind:0≤c.kind∧c.kind≤5
 a:SrM c.a
 b:SrM c.b
 off:0≤c.off∧c.off≤2
 tot:0≤c.tot∧c.tot≤20
 par:0≤c.par∧c.par≤255
 tx:c.tx.size≤100
 gain:c.gain=0
 ch:c.ch=[]
abbrev clV (len kind:Int) (a b:Sr) (off tt par:Int) (tx:ByteArray):List Value:=[.int .i64 len,.int .i64 kind,.int .i64 a.k,.string a.nm,.int .i64 a.an,.int .i64 a.ad,.int .i64 a.sn,.int .i64 a.sd,.bool a.sm,
 .int .i64 b.k,.string b.nm,.int .i64 b.an,.int .i64 b.ad,.int .i64 b.sn,.int .i64 b.sd,.bool b.sm,.int .i64 off,.int .i64 tt,.int .i64 par,.string tx,.int .i64 0,.slice none 0 0]
abbrev zCl:List Value:=[.int .i64 0,.int .i64 0,.int .i64 0,.string ⟨#[]⟩,.int .i64 0,.int .i64 0,.int .i64 0,.int .i64 0,.bool false,.int .i64 0,.string ⟨#[]⟩,.int .i64 0,.int .i64 0,.int .i64 0,.int .i64 0,.bool false,.int .i64 0,.int .i64 0,.int .i64 0,.string ⟨#[]⟩,.int .i64 0,.slice none 0 0]
theorem infoClip':(Tryz.prog.info? 81).map (·.size)=some 22:=by kernel_rfl
theorem ClM.of {len kd o t p:Int} {a b:Sr} {tx:ByteArray} (h1:1≤len∧len≤9) (h2:0≤kd∧kd≤5) (h3:SrM a) (h4:SrM b) (h5:0≤o∧o≤2) (h6:0≤t∧t≤20) (h7:0≤p∧p≤255) (h8:tx.size≤100):ClM ⟨len,kd,a,b,o,t,p,tx,0,[]⟩:=⟨h1,h2,h3,h4,h5,h6,h7,h8,rfl,rfl⟩
structure Cb (w:World) (T:Nat) (a:Option Addr) (cap:Nat) (xs:List Int) (k Z:Nat) (l:List Value) (wx:World):Prop where
 by_:ByT w T wx
 tp:Tape wx T a cap xs k
 res:Blk wx w.heap.size 81 zCl
 box:Blk wx Z 81 l
theorem Cb.set {w:World} {T:Nat} {a:Option Addr} {cap:Nat} {xs:List Int} {k k0 Z:Nat} {l:List Value} {wx:World} (h:Cb w T a cap xs k Z l wx) (h0:Tape w T a cap xs k0) (hZ:w.heap.size<Z) (i:Nat) (u:Value):Cb w T a cap xs k Z (l.set i u) (wx.setCell ⟨Z,i,none⟩ u):=by
 have hl:=h0.cel.lt
 exact⟨h.by_.set (by simp only;omega) u,Tape.later h0 (grown_setCell _ _ _) (fun h=>by injection h with h;simp only at h;omega) (fun k h=>by injection h with h;simp only at h;omega) h.tp,h.res.other (by simp only;omega) u,h.box.set i u⟩
theorem Cb.call {w:World} {T:Nat} {a:Option Addr} {cap:Nat} {xs:List Int} {k k0 k' Z:Nat} {l:List Value} {wx wy:World} (h:Cb w T a cap xs k Z l wx) (h0:Tape w T a cap xs k0) (hZ:w.heap.size<Z) (hg:wx.grownBy wy (some T)) (hT:Tape wy T a cap xs k'):Cb w T a cap xs k' Z l wy:=by
 have hl:=h0.cel.lt
 exact⟨h.by_.step hg (fun k h=>by injection h with h;exact .inl h.symm),hT,h.res.grown hg (fun e=>by injection e with e;omega),h.box.grown hg (fun e=>by injection e with e;omega)⟩
theorem Cb.gr {w:World} {T:Nat} {a:Option Addr} {cap:Nat} {xs:List Int} {k Z:Nat} {l:List Value} {wx wy:World} (h:Cb w T a cap xs k Z l wx) (hg:Gr wx wy):Cb w T a cap xs k Z l wy:=
 ⟨h.by_.gr hg,h.tp.gr hg,h.res.gr hg,h.box.gr hg⟩
abbrev kindsV:List Value:=[.int .i64 1,.int .i64 1,.int .i64 1,.int .i64 0,.int .i64 2,.int .i64 3,.int .i64 4,.int .i64 5]
theorem kind_at {W:World} {G rn:Nat} (h:Cel W G kindsV) (hr:rn<8):∃ n:Int,0≤n∧n≤5∧W.cell? ⟨G,rn,none⟩=some (.int .i64 n):=by
 rcases (show rn=0∨rn=1∨rn=2∨rn=3∨rn=4∨rn=5∨rn=6∨rn=7 by omega) with rfl | rfl | rfl | rfl | rfl | rfl | rfl | rfl
 ·exact⟨1,by omega,by omega,(h.2 0 _ rfl).1⟩
 ·exact⟨1,by omega,by omega,(h.2 1 _ rfl).1⟩
 ·exact⟨1,by omega,by omega,(h.2 2 _ rfl).1⟩
 ·exact⟨0,by omega,by omega,(h.2 3 _ rfl).1⟩
 ·exact⟨2,by omega,by omega,(h.2 4 _ rfl).1⟩
 ·exact⟨3,by omega,by omega,(h.2 5 _ rfl).1⟩
 ·exact⟨4,by omega,by omega,(h.2 6 _ rfl).1⟩
 ·exact⟨5,by omega,by omega,(h.2 7 _ rfl).1⟩
abbrev textsV:List Value:=[.string ⟨#[65]⟩,.string ⟨#[82,69,69,76,32,55]⟩,.string ⟨#[116,104,101,32,101,110,100,46]⟩,.string ⟨#[49,50,58,51,48]⟩]
theorem text_at {W:World} {G rn:Nat} (h:Cel W G textsV) (hr:rn<4):∃ s:ByteArray,s.size≤100∧W.cell? ⟨G,rn,none⟩=some (.string s):=by
 rcases (show rn=0∨rn=1∨rn=2∨rn=3 by omega) with rfl | rfl | rfl | rfl
 ·exact⟨_,by decide,(h.2 0 _ rfl).1⟩
 ·exact⟨_,by decide,(h.2 1 _ rfl).1⟩
 ·exact⟨_,by decide,(h.2 2 _ rfl).1⟩
 ·exact⟨_,by decide,(h.2 3 _ rfl).1⟩
theorem clV_one (len kind:Int) (a b:Sr) (off tt par:Int) (tx:ByteArray):∀ v∈clV len kind a b off tt par tx,v.oneCell'=true:=by
 intro v hm
 simp only [List.mem_cons,List.not_mem_nil,or_false] at hm
 rcases hm with rfl | rfl | rfl | rfl | rfl | rfl | rfl | rfl | rfl | rfl | rfl | rfl | rfl | rfl | rfl | rfl | rfl | rfl | rfl | rfl | rfl | rfl <;> rfl
theorem Cb.row {w:World} {T:Nat} {a:Option Addr} {cap:Nat} {xs:List Int} {k k0 Z:Nat} {l:List Value} {wx:World} (h:Cb w T a cap xs k Z l wx) (h0:Tape w T a cap xs k0) (l':List Value):ByT w T (wx.setRow w.heap.size l'.toArray)∧Tape (wx.setRow w.heap.size l'.toArray) T a cap xs k∧Blk (wx.setRow w.heap.size l'.toArray) w.heap.size 81 l':=by
 have hl:=h0.cel.lt
 exact⟨h.by_.step (grown_setRow wx w.heap.size l'.toArray) (fun k h=>by injection h with h;exact .inr (by omega)),Tape.later h0 (grown_setRow wx w.heap.size l'.toArray) (fun h=>by injection h with h;omega) (fun k h=>by injection h with h;omega) h.tp,h.res.setRow l'⟩
set_option maxRecDepth 20000 in
set_option maxHeartbeats 8000000 in
theorem clip_any (T:Nat) (a:Option Addr) (cap:Nat) (xs:List Int) (k:Nat) (w:World) (hT:Tape w T a cap xs k) (hk:k≤5000) :
  Calls Tryz.prog 93 #[.pointer (some ⟨T,0,none⟩),.int .i64 3,.int .i64 2] w fun e w'=>∃ (c:Cl) (k':Nat),e=.returned (.agg (CM.mk c (.slice none 0 0)).cells.toArray)∧ClM c∧ByT w T w'∧Tape w' T a cap xs k'∧k≤k'∧k'≤k+20:=by
 have HN:Hid (∀ (w':World) (k':Nat) (n:Int),Tape w' T a cap xs k'→k'≤1000000→1≤n→n≤2147483647→Calls Tryz.prog 33 #[.pointer (some ⟨T,0,none⟩),.int .i64 n] w' fun e w''=>∃ r:Int,e=.returned (.int .i64 r)∧0≤r∧r<n∧w'.grownBy w'' (some T)∧Tape w'' T a cap xs (k'+1)):=fun w' k' n h1 h2 h3 h4=>next_any T a cap xs k' n w' h1 h2 h3 h4
 have HS:Hid (∀ (w':World) (k':Nat),Tape w' T a cap xs k'→k'≤10000→Calls Tryz.prog 124 #[.pointer (some ⟨T,0,none⟩),.int .i64 3,.int .i64 2] w' fun e w''=>∃ (s:Sr) (k'':Nat),e=.returned (.agg #[.int .i64 s.k,.string s.nm,.int .i64 s.an,.int .i64 s.ad,.int .i64 s.sn,.int .i64 s.sd,.bool s.sm])∧SrM s∧ByT w' T w''∧Tape w'' T a cap xs k''∧k'≤k''∧k''≤k'+6):=Lib.hid fun w' k' h1 h2=>source_any T a cap xs k' w' h1 h2
 have hTl:=hT.cel.lt
 have hT0:=Lib.hid hT
 have hr:=Blk.new w zCl 81
 have hgA:Gr w (w.alloc (.cells zCl.toArray 81)):=(Gr.refl w).alloc _
 simp only [List.toArray] at hr hgA
 go_enter Tryz.func93,Tryz.ntmps93
 go_upto_region 1 with fail
 have hT1:=hT.gr hgA
 have hB1:=(ByT.refl w T).gr hgA
 clear hT hgA
 generalize w.alloc (.cells #[.int .i64 0,.int .i64 0,.int .i64 0,.string ⟨#[]⟩,.int .i64 0,.int .i64 0,.int .i64 0,.int .i64 0,.bool false,.int .i64 0,.string ⟨#[]⟩,.int .i64 0,.int .i64 0,.int .i64 0,.int .i64 0,.bool false,.int .i64 0,.int .i64 0,.int .i64 0,.string ⟨#[]⟩,.int .i64 0,.slice none 0 0] 81)=W at *
 have hl1:=hr.lt
 go_upto_region 2 with (first
  | (go_at_call 33;(with_reducible refine (HN.out W k 9 hT1 ?_ ?_ ?_).mono ?_);(· omega);(· omega);(· omega);rintro e w2 ⟨q,rfl,q0,q9,hg2,hT2⟩;have hgS:Gr w2 (w2.alloc (.cells #[.int .i64 1,.int .i64 1,.int .i64 1,.int .i64 0,.int .i64 2,.int .i64 3,.int .i64 4,.int .i64 5] 3)):=(Gr.refl w2).alloc _;have hc2:=Cel.new w2 kindsV.toArray 3)
  | (go_at_call 33;(with_reducible refine (HN.out _ (k+1) 8 (hT2.gr hgS) ?_ ?_ ?_).mono ?_);(· omega);(· omega);(· omega);rintro e w3 ⟨r,rfl,r0,r8,hg3,hT3⟩;obtain⟨rn,rfl⟩:∃ rn:Nat,r=rn:=⟨r.toNat,by omega⟩;have hz2:=World.grownBy.size hg2;have hc3:=Cel.grown hg3 (fun e=>by injection e with e;omega) hc2;have cl:=hc3.lt;obtain⟨kd,kd0,kd5,e0⟩:=kind_at hc3 (show rn<8 by omega);have hrl:rn<8:=(by omega);obtain⟨LL,hLL⟩:∃ LL:List Value,clV (1+q) kd blkS blkS 0 0 0 ⟨#[]⟩=LL:=⟨_,rfl⟩;have hl22:LL.length=22:=(by rw [← hLL];rfl);have hone:∀ v∈LL,v.oneCell'=true:=(by rw [← hLL];exact clV_one _ _ _ _ _ _ _ _);have st:=st_new (P:=Tryz.prog) w3 81 #[.int .i64 0,.int .i64 0,.int .i64 0,.string ⟨#[]⟩,.int .i64 0,.int .i64 0,.int .i64 0,.int .i64 0,.bool false,.int .i64 0,.string ⟨#[]⟩,.int .i64 0,.int .i64 0,.int .i64 0,.int .i64 0,.bool false,.int .i64 0,.int .i64 0,.int .i64 0,.string ⟨#[]⟩,.int .i64 0,.slice none 0 0] LL (by rw [hl22];exact infoClip') (by rw [hl22];rfl) hone;replace hLL:=Lib.hid hLL)
  | (refine wpList_buildTo rfl 81 #[(0,.tmp 10),(1,.tmp 15)] rfl (some 16) rfl LL.toArray (by rw [← hLL.out];kernel_rfl) ?_))
 have hCL:Cb w T a cap xs (k+2) w3.heap.size (clV (1+q) kd blkS blkS 0 0 0 ⟨#[]⟩) (w3.alloc (.cells LL.toArray 81)):=by
  have hg:Gr w3 (w3.alloc (.cells LL.toArray 81)):=(Gr.refl w3).alloc _
  refine⟨(((hB1.step hg2 (fun k h=>by injection h with h;exact .inl h.symm)).gr hgS).step hg3 (fun k h=>by injection h with h;exact .inl h.symm)).gr hg,hT3.gr hg,(((hr.grown hg2 (fun e=>by injection e with e;omega)).gr hgS).grown hg3 (fun e=>by injection e with e;omega)).gr hg,?_⟩
  rw [hLL.out]
  exact Blk.new w3 LL 81
 have hZ:w.heap.size<w3.heap.size:=by omega
 generalize w3.alloc (.cells LL.toArray 81)=W3 at *
 obtain⟨Z,hZe⟩:∃ Z,w3.heap.size=Z:=⟨_,rfl⟩
 rw [hZe] at hCL hZ ⊢
 obtain⟨len,hlen⟩:∃ len,1+q=len:=⟨_,rfl⟩
 rw [hlen] at hCL ⊢
 have hlen1:1≤len∧len≤9:=by omega
 clear hLL hl22 hone st hZe hB1 hT1 hg2 hT2 hgS hc2 hg3 hT3 hz2 hc3 cl e0 hr
 have y:=hCL.box.lt
 have y1:=(hCL.box.cel.2 1 _ rfl).1
 by_cases c0:kd=0
 ·subst c0
  obtain⟨LT,hLT⟩:∃ LT:List Value,clV len 0 blkS blkS 0 0 0 ⟨#[]⟩=LT:=⟨_,rfl⟩
  have hl22:LT.length=22:=by rw [← hLT];rfl
  have hone:∀ v∈LT,v.oneCell'=true:=by rw [← hLT];exact clV_one _ _ _ _ _ _ _ _
  have hbox:=hCL.box
  rw [hLT] at hbox
  have st:=st_blk (P:=Tryz.prog) hCL.res (by rw [hl22];rfl) hone
  obtain⟨hrB,hrT,hrR⟩:=hCL.row hT0.out LT
  obtain⟨kz,hkz⟩:∃ kz,22=kz:=⟨_,rfl⟩
  have lb:=ld_blk (P:=Tryz.prog) (hl22.trans hkz) hrR
  replace hLT:=Lib.hid hLT
  go_wp2_with (refine wpList_load_row rfl 81 (.tmp 7) rfl Z rfl 81 LT.toArray (0,0) _ hbox Tryz.underlying81 rfl (by rw [List.size_toArray,hl22];exact infoClip') ?_)
  have aE:∀ w,(isAgg 81).run Tryz.prog w=.ok true w:=Tryz.isAgg81
  have zE:∀ w,(Go.sizeOf 81).run Tryz.prog w=.ok kz w:=fun w=>by rw [← hkz];exact Tryz.sizeOf81 w
  simp [bodyPost,results,Tryz.results93,go_sem,aE,zE,lb]
  exact⟨⟨len,0,blkS,blkS,0,0,0,⟨#[]⟩,0,[]⟩,hLT.out.symm,ClM.of hlen1 (by omega) SrM.blk SrM.blk (by omega) (by omega) (by omega) (by decide),hrB,_,hrT,by omega,by omega⟩
 ·have q1:(kd == 0)=false:=by simp [c0]
  have hZT:T<Z:=by omega
  go_upto_region 5 with (go_at_call 124;(with_reducible refine (HS.out _ _ hCL.tp ?_).mono ?_);(· omega);rintro e w4 ⟨s,k4,rfl,hs,hgw4,hTw4,k4a,k4b⟩;have hD:=hCL.call hT0.out hZ hgw4 hTw4;have v:=hD.box.lt;obtain⟨v0,g0⟩:=hD.box.cel.2 2 _ rfl;obtain⟨v1,g1⟩:=hD.box.cel.2 3 _ rfl;obtain⟨v2,g2⟩:=hD.box.cel.2 4 _ rfl;obtain⟨v3,g3⟩:=hD.box.cel.2 5 _ rfl;obtain⟨v4,g4⟩:=hD.box.cel.2 6 _ rfl;obtain⟨v5,g5⟩:=hD.box.cel.2 7 _ rfl;obtain⟨v6,g6⟩:=hD.box.cel.2 8 _ rfl)
  have hC4:=((((((hD.set hT0.out hZ 2 (.int .i64 s.k)).set hT0.out hZ 3 (.string s.nm)).set hT0.out hZ 4 (.int .i64 s.an)).set hT0.out hZ 5 (.int .i64 s.ad)).set hT0.out hZ 6 (.int .i64 s.sn)).set hT0.out hZ 7 (.int .i64 s.sd)).set hT0.out hZ 8 (.bool s.sm)
  simp only [clV,zS,zZ] at hC4
  replace hC4:Cb w T a cap xs k4 Z (clV len kd s blkS 0 0 0 ⟨#[]⟩) _:=hC4
  clear hD v v0 v1 v2 v3 v4 v5 v6 g0 g1 g2 g3 g4 g5 g6 hgw4 hTw4
  generalize ((((((w4.setCell ⟨Z,2,none⟩ (.int .i64 s.k)).setCell ⟨Z,3,none⟩ (.string s.nm)).setCell ⟨Z,4,none⟩ (.int .i64 s.an)).setCell ⟨Z,5,none⟩ (.int .i64 s.ad)).setCell ⟨Z,6,none⟩ (.int .i64 s.sn)).setCell ⟨Z,7,none⟩ (.int .i64 s.sd)).setCell ⟨Z,8,none⟩ (.bool s.sm)=W4 at *
  clear hCL y y1
  have y:=hC4.box.lt
  have y1:=(hC4.box.cel.2 1 _ rfl).1
  rcases (show kd=1∨kd=2∨kd=3∨kd=4∨kd=5 by omega) with rfl | rfl | rfl | rfl | rfl
  ·skip
   go_upto_region 18 with fail
   obtain⟨LT,hLT⟩:∃ LT:List Value,clV len 1 s blkS 0 0 0 ⟨#[]⟩=LT:=⟨_,rfl⟩
   have hl22:LT.length=22:=by rw [← hLT];rfl
   have hone:∀ v∈LT,v.oneCell'=true:=by rw [← hLT];exact clV_one _ _ _ _ _ _ _ _
   have hbox:=hC4.box
   rw [hLT] at hbox
   have st:=st_blk (P:=Tryz.prog) hC4.res (by rw [hl22];rfl) hone
   obtain⟨hrB,hrT,hrR⟩:=hC4.row hT0.out LT
   obtain⟨kz,hkz⟩:∃ kz,22=kz:=⟨_,rfl⟩
   have lb:=ld_blk (P:=Tryz.prog) (hl22.trans hkz) hrR
   replace hLT:=Lib.hid hLT
   go_wp2_with (refine wpList_load_row rfl 81 (.tmp 7) rfl Z rfl 81 LT.toArray (0,0) _ hbox Tryz.underlying81 rfl (by rw [List.size_toArray,hl22];exact infoClip') ?_)
   have aE:∀ w,(isAgg 81).run Tryz.prog w=.ok true w:=Tryz.isAgg81
   have zE:∀ w,(Go.sizeOf 81).run Tryz.prog w=.ok kz w:=fun w=>by rw [← hkz];exact Tryz.sizeOf81 w
   simp [bodyPost,results,Tryz.results93,go_sem,aE,zE,lb]
   exact⟨⟨len,1,s,blkS,0,0,0,⟨#[]⟩,0,[]⟩,hLT.out.symm,ClM.of hlen1 (by omega) hs SrM.blk (by omega) (by omega) (by omega) (by decide),hrB,_,hrT,by omega,by omega⟩
  ·skip
   go_upto_region 9 with (go_at_call 124;(with_reducible refine (HS.out _ _ hC4.tp ?_).mono ?_);(· omega);rintro e w5 ⟨t,k5,rfl,ht,hgw5,hTw5,k5a,k5b⟩;have hD:=hC4.call hT0.out hZ hgw5 hTw5;have v:=hD.box.lt;obtain⟨v0,g0⟩:=hD.box.cel.2 9 _ rfl;obtain⟨v1,g1⟩:=hD.box.cel.2 10 _ rfl;obtain⟨v2,g2⟩:=hD.box.cel.2 11 _ rfl;obtain⟨v3,g3⟩:=hD.box.cel.2 12 _ rfl;obtain⟨v4,g4⟩:=hD.box.cel.2 13 _ rfl;obtain⟨v5,g5⟩:=hD.box.cel.2 14 _ rfl;obtain⟨v6,g6⟩:=hD.box.cel.2 15 _ rfl)
   have hC5:=((((((hD.set hT0.out hZ 9 (.int .i64 t.k)).set hT0.out hZ 10 (.string t.nm)).set hT0.out hZ 11 (.int .i64 t.an)).set hT0.out hZ 12 (.int .i64 t.ad)).set hT0.out hZ 13 (.int .i64 t.sn)).set hT0.out hZ 14 (.int .i64 t.sd)).set hT0.out hZ 15 (.bool t.sm)
   simp only [clV,zS,zZ] at hC5
   replace hC5:Cb w T a cap xs k5 Z (clV len 2 s t 0 0 0 ⟨#[]⟩) _:=hC5
   clear hD v v0 v1 v2 v3 v4 v5 v6 g0 g1 g2 g3 g4 g5 g6 hgw5 hTw5
   generalize ((((((w5.setCell ⟨Z,9,none⟩ (.int .i64 t.k)).setCell ⟨Z,10,none⟩ (.string t.nm)).setCell ⟨Z,11,none⟩ (.int .i64 t.an)).setCell ⟨Z,12,none⟩ (.int .i64 t.ad)).setCell ⟨Z,13,none⟩ (.int .i64 t.sn)).setCell ⟨Z,14,none⟩ (.int .i64 t.sd)).setCell ⟨Z,15,none⟩ (.bool t.sm)=W5 at *
   clear hC4 y y1
   go_upto_region 10 with (go_at_call 33;(with_reducible refine (HN.out _ _ 3 hC5.tp ?_ ?_ ?_).mono ?_);(· omega);(· omega);(· omega);rintro e w6 ⟨o,rfl,o0,o1,hgw6,hTw6⟩;have hD:=hC5.call hT0.out hZ hgw6 hTw6;have v:=hD.box.lt;obtain⟨v0,g0⟩:=hD.box.cel.2 16 _ rfl)
   have hC6:=hD.set hT0.out hZ 16 (.int .i64 o)
   simp only [clV,zS,zZ] at hC6
   replace hC6:Cb w T a cap xs (k5+1) Z (clV len 2 s t o 0 0 ⟨#[]⟩) _:=hC6
   clear hD v v0 g0 hgw6 hTw6
   generalize w6.setCell ⟨Z,16,none⟩ (.int .i64 o)=W6 at *
   clear hC5
   refine wp_region_still (Keep 5 (fun y=>Blk y Z 81 (clV len 2 s t o 0 0 ⟨#[]⟩))) 10 rfl (by kernel_rfl) ?_
   show stillAny _ _ _ _ _ _ #[false,false,false,false,false,false,false,false,false,false] _ _
   have hC7:=hC6.gr ((Gr.refl W6).drew)
   clear hC6
   generalize W6.drew=W7 at *
   have hbx:=hC7.box
   refine still_pure 0 (v:=.pointer (some ⟨Z,16,none⟩)) rfl (by kernel_rfl) (by kernel_rfl) (by kernel_rfl) (fun _=>hbx) rfl (fun w hw=>?_) ?_
   ·simp [execOp,go_sem] <;> (intros;omega)
   simp only [Act.put,zI,zS,zZ]
   refine still_pure 1 (v:=.int .i64 o) rfl (by kernel_rfl) (by kernel_rfl) (by kernel_rfl) (fun _=>hbx) rfl (fun w hw=>?_) ?_
   ·replace hw:=hw (by decide)
    have hq0:=hw.lt
    have hq1:=(hw.cel.2 16 _ rfl).1
    (try simp at hq0 hq1)
    simp [execOp,go_sem,hq0,hq1]
   simp only [Act.put,zI,zS,zZ]
   refine still_pure 2 (v:=.pointer (some ⟨Z,0,none⟩)) rfl (by kernel_rfl) (by kernel_rfl) (by kernel_rfl) (fun _=>hbx) rfl (fun w hw=>?_) ?_
   ·simp [execOp,go_sem] <;> (intros;omega)
   simp only [Act.put,zI,zS,zZ]
   refine still_pure 3 (v:=.int .i64 len) rfl (by kernel_rfl) (by kernel_rfl) (by kernel_rfl) (fun _=>hbx) rfl (fun w hw=>?_) ?_
   ·replace hw:=hw (by decide)
    have hq0:=hw.lt
    have hq1:=(hw.cel.2 0 _ rfl).1
    (try simp at hq0 hq1)
    simp [execOp,go_sem,hq0,hq1]
   simp only [Act.put,zI,zS,zZ]
   have hwr:IntKind.i64.wrap (o+len)=o+len:=by rw [IntKind.wrap_i64];omega
   refine still_pure 4 (v:=.int .i64 (o+len)) rfl (by kernel_rfl) (by kernel_rfl) (by kernel_rfl) (fun _=>hbx) rfl (fun wy hw=>?_) ?_
   ·simp [execOp,go_sem,hwr]
   simp only [Act.put,zI,zS,zZ]
   refine still_pick [5] (by kernel_rfl) (by decide) ?_
   intro i hi
   obtain rfl:i=5:=by simpa using hi
   refine still_one (by first | (simp only [List.getElem?_toArray,List.getElem?_cons_succ,List.getElem?_cons_zero];rfl) | rfl) (fun R hR=>?_)
   (try simp only [zG,zH,zK])
   go_wp2_with fail
   refine only_normal (hR _ _ (Keep.step (fun h=>h)) ?_)
   clear hR R
   simp only [Act.put,zI,zS,zZ]
   refine still_pick [6] (by kernel_rfl) (by decide) ?_
   intro i hi
   obtain rfl:i=6:=by simpa using hi
   refine still_one (by first | (simp only [List.getElem?_toArray,List.getElem?_cons_succ,List.getElem?_cons_zero];rfl) | rfl) (fun R hR=>?_)
   (try simp only [zG,zH,zK])
   go_wp2_with (go_at_call 33;(with_reducible refine (HN.out _ _ 3 hC7.tp ?_ ?_ ?_).mono ?_);(· omega);(· omega);(· omega);rintro e w8 ⟨u,rfl,u0,u1,hgw8,hTw8⟩)
   refine only_normal (hR _ _ (Keep.step (fun h=>Blk.grown h hgw8 (fun e=>by injection e with e;omega))) ?_)
   clear hR R
   simp only [Act.put,zI,zS,zZ]
   have hD:=hC7.call hT0.out hZ hgw8 hTw8
   have v:=hD.box.lt
   obtain⟨v0,g0⟩:=hD.box.cel.2 17 _ rfl
   refine still_pick [7] (by kernel_rfl) (by decide) ?_
   intro i hi
   obtain rfl:i=7:=by simpa using hi
   refine still_one (by first | (simp only [List.getElem?_toArray,List.getElem?_cons_succ,List.getElem?_cons_zero];rfl) | rfl) (fun R hR=>?_)
   (try simp only [zG,zH,zK])
   go_wp2_with fail
   refine only_normal (hR _ _ (Keep.step (fun h=>h)) ?_)
   clear hR R
   simp only [Act.put,zI,zS,zZ]
   refine still_pick [8] (by kernel_rfl) (by decide) ?_
   intro i hi
   obtain rfl:i=8:=by simpa using hi
   refine still_one (by first | (simp only [List.getElem?_toArray,List.getElem?_cons_succ,List.getElem?_cons_zero];rfl) | rfl) (fun R hR=>?_)
   (try simp only [zG,zH,zK])
   go_wp2_with fail
   refine only_normal (hR _ _ (Keep.step (fun h=>h)) ?_)
   clear hR R
   simp only [Act.put,zI,zS,zZ]
   refine still_pick [9] (by kernel_rfl) (by decide) ?_
   intro i hi
   obtain rfl:i=9:=by simpa using hi
   refine still_one (by first | (simp only [List.getElem?_toArray,List.getElem?_cons_succ,List.getElem?_cons_zero];rfl) | rfl) (fun R hR=>?_)
   (try simp only [zG,zH,zK])
   go_wp2_with fail
   refine only_normal (hR _ _ (fun i hn h hi=>?_) ?_)
   ·exfalso
    rcases (show i=0∨i=1∨i=2∨i=3∨i=4 by omega) with rfl | rfl | rfl | rfl | rfl
    ·exact absurd ⟨_,rfl,⟨0,.phase⟩,by simp,rfl,rfl⟩ hn
    ·exact absurd ⟨_,rfl,⟨1,.phase⟩,by simp,rfl,rfl⟩ hn
    ·exact absurd ⟨_,rfl,⟨2,.phase⟩,by simp,rfl,rfl⟩ hn
    ·exact absurd ⟨_,rfl,⟨3,.phase⟩,by simp,rfl,rfl⟩ hn
    ·exact absurd ⟨_,rfl,⟨4,.phase⟩,by simp,rfl,rfl⟩ hn
   clear hR R
   simp only [Act.put,zI,zS,zZ]
   refine still_done (by kernel_rfl) ?_
   obtain⟨tt,htt⟩:∃ tt,o+len+u=tt:=⟨_,rfl⟩
   have htt2:0≤tt∧tt≤20:=by omega
   have hC8:=hD.set hT0.out hZ 17 (.int .i64 (o+len+u))
   simp only [clV,zS,zZ] at hC8
   rw [htt] at hC8 ⊢
   replace hC8:Cb w T a cap xs (k5+1+1) Z (clV len 2 s t o tt 0 ⟨#[]⟩) _:=hC8
   clear hD v v0 g0 hgw8 hTw8 hbx hC7 hwr
   generalize w8.setCell ⟨Z,17,none⟩ (.int .i64 tt)=W8 at *
   have y:=hC8.box.lt
   have y1:=(hC8.box.cel.2 1 _ rfl).1
   go_upto_region 18 with fail
   obtain⟨LT,hLT⟩:∃ LT:List Value,clV len 2 s t o tt 0 ⟨#[]⟩=LT:=⟨_,rfl⟩
   have hl22:LT.length=22:=by rw [← hLT];rfl
   have hone:∀ v∈LT,v.oneCell'=true:=by rw [← hLT];exact clV_one _ _ _ _ _ _ _ _
   have hbox:=hC8.box
   rw [hLT] at hbox
   have st:=st_blk (P:=Tryz.prog) hC8.res (by rw [hl22];rfl) hone
   obtain⟨hrB,hrT,hrR⟩:=hC8.row hT0.out LT
   obtain⟨kz,hkz⟩:∃ kz,22=kz:=⟨_,rfl⟩
   have lb:=ld_blk (P:=Tryz.prog) (hl22.trans hkz) hrR
   replace hLT:=Lib.hid hLT
   go_wp2_with (refine wpList_load_row rfl 81 (.tmp 7) rfl Z rfl 81 LT.toArray (0,0) _ hbox Tryz.underlying81 rfl (by rw [List.size_toArray,hl22];exact infoClip') ?_)
   have aE:∀ w,(isAgg 81).run Tryz.prog w=.ok true w:=Tryz.isAgg81
   have zE:∀ w,(Go.sizeOf 81).run Tryz.prog w=.ok kz w:=fun w=>by rw [← hkz];exact Tryz.sizeOf81 w
   simp [bodyPost,results,Tryz.results93,go_sem,aE,zE,lb]
   exact⟨⟨len,2,s,t,o,tt,0,⟨#[]⟩,0,[]⟩,hLT.out.symm,ClM.of hlen1 (by omega) hs ht (by omega) (by omega) (by omega) (by decide),hrB,_,hrT,by omega,by omega⟩
  ·skip
   go_upto_region 9 with (go_at_call 124;(with_reducible refine (HS.out _ _ hC4.tp ?_).mono ?_);(· omega);rintro e w5 ⟨t,k5,rfl,ht,hgw5,hTw5,k5a,k5b⟩;have hD:=hC4.call hT0.out hZ hgw5 hTw5;have v:=hD.box.lt;obtain⟨v0,g0⟩:=hD.box.cel.2 9 _ rfl;obtain⟨v1,g1⟩:=hD.box.cel.2 10 _ rfl;obtain⟨v2,g2⟩:=hD.box.cel.2 11 _ rfl;obtain⟨v3,g3⟩:=hD.box.cel.2 12 _ rfl;obtain⟨v4,g4⟩:=hD.box.cel.2 13 _ rfl;obtain⟨v5,g5⟩:=hD.box.cel.2 14 _ rfl;obtain⟨v6,g6⟩:=hD.box.cel.2 15 _ rfl)
   have hC5:=((((((hD.set hT0.out hZ 9 (.int .i64 t.k)).set hT0.out hZ 10 (.string t.nm)).set hT0.out hZ 11 (.int .i64 t.an)).set hT0.out hZ 12 (.int .i64 t.ad)).set hT0.out hZ 13 (.int .i64 t.sn)).set hT0.out hZ 14 (.int .i64 t.sd)).set hT0.out hZ 15 (.bool t.sm)
   simp only [clV,zS,zZ] at hC5
   replace hC5:Cb w T a cap xs k5 Z (clV len 3 s t 0 0 0 ⟨#[]⟩) _:=hC5
   clear hD v v0 v1 v2 v3 v4 v5 v6 g0 g1 g2 g3 g4 g5 g6 hgw5 hTw5
   generalize ((((((w5.setCell ⟨Z,9,none⟩ (.int .i64 t.k)).setCell ⟨Z,10,none⟩ (.string t.nm)).setCell ⟨Z,11,none⟩ (.int .i64 t.an)).setCell ⟨Z,12,none⟩ (.int .i64 t.ad)).setCell ⟨Z,13,none⟩ (.int .i64 t.sn)).setCell ⟨Z,14,none⟩ (.int .i64 t.sd)).setCell ⟨Z,15,none⟩ (.bool t.sm)=W5 at *
   clear hC4 y y1
   go_upto_region 10 with (go_at_call 33;(with_reducible refine (HN.out _ _ 3 hC5.tp ?_ ?_ ?_).mono ?_);(· omega);(· omega);(· omega);rintro e w6 ⟨o,rfl,o0,o1,hgw6,hTw6⟩;have hD:=hC5.call hT0.out hZ hgw6 hTw6;have v:=hD.box.lt;obtain⟨v0,g0⟩:=hD.box.cel.2 16 _ rfl)
   have hC6:=hD.set hT0.out hZ 16 (.int .i64 o)
   simp only [clV,zS,zZ] at hC6
   replace hC6:Cb w T a cap xs (k5+1) Z (clV len 3 s t o 0 0 ⟨#[]⟩) _:=hC6
   clear hD v v0 g0 hgw6 hTw6
   generalize w6.setCell ⟨Z,16,none⟩ (.int .i64 o)=W6 at *
   clear hC5
   refine wp_region_still (Keep 5 (fun y=>Blk y Z 81 (clV len 3 s t o 0 0 ⟨#[]⟩))) 10 rfl (by kernel_rfl) ?_
   show stillAny _ _ _ _ _ _ #[false,false,false,false,false,false,false,false,false,false] _ _
   have hC7:=hC6.gr ((Gr.refl W6).drew)
   clear hC6
   generalize W6.drew=W7 at *
   have hbx:=hC7.box
   refine still_pure 0 (v:=.pointer (some ⟨Z,16,none⟩)) rfl (by kernel_rfl) (by kernel_rfl) (by kernel_rfl) (fun _=>hbx) rfl (fun w hw=>?_) ?_
   ·simp [execOp,go_sem] <;> (intros;omega)
   simp only [Act.put,zI,zS,zZ]
   refine still_pure 1 (v:=.int .i64 o) rfl (by kernel_rfl) (by kernel_rfl) (by kernel_rfl) (fun _=>hbx) rfl (fun w hw=>?_) ?_
   ·replace hw:=hw (by decide)
    have hq0:=hw.lt
    have hq1:=(hw.cel.2 16 _ rfl).1
    (try simp at hq0 hq1)
    simp [execOp,go_sem,hq0,hq1]
   simp only [Act.put,zI,zS,zZ]
   refine still_pure 2 (v:=.pointer (some ⟨Z,0,none⟩)) rfl (by kernel_rfl) (by kernel_rfl) (by kernel_rfl) (fun _=>hbx) rfl (fun w hw=>?_) ?_
   ·simp [execOp,go_sem] <;> (intros;omega)
   simp only [Act.put,zI,zS,zZ]
   refine still_pure 3 (v:=.int .i64 len) rfl (by kernel_rfl) (by kernel_rfl) (by kernel_rfl) (fun _=>hbx) rfl (fun w hw=>?_) ?_
   ·replace hw:=hw (by decide)
    have hq0:=hw.lt
    have hq1:=(hw.cel.2 0 _ rfl).1
    (try simp at hq0 hq1)
    simp [execOp,go_sem,hq0,hq1]
   simp only [Act.put,zI,zS,zZ]
   have hwr:IntKind.i64.wrap (o+len)=o+len:=by rw [IntKind.wrap_i64];omega
   refine still_pure 4 (v:=.int .i64 (o+len)) rfl (by kernel_rfl) (by kernel_rfl) (by kernel_rfl) (fun _=>hbx) rfl (fun wy hw=>?_) ?_
   ·simp [execOp,go_sem,hwr]
   simp only [Act.put,zI,zS,zZ]
   refine still_pick [5] (by kernel_rfl) (by decide) ?_
   intro i hi
   obtain rfl:i=5:=by simpa using hi
   refine still_one (by first | (simp only [List.getElem?_toArray,List.getElem?_cons_succ,List.getElem?_cons_zero];rfl) | rfl) (fun R hR=>?_)
   (try simp only [zG,zH,zK])
   go_wp2_with fail
   refine only_normal (hR _ _ (Keep.step (fun h=>h)) ?_)
   clear hR R
   simp only [Act.put,zI,zS,zZ]
   refine still_pick [6] (by kernel_rfl) (by decide) ?_
   intro i hi
   obtain rfl:i=6:=by simpa using hi
   refine still_one (by first | (simp only [List.getElem?_toArray,List.getElem?_cons_succ,List.getElem?_cons_zero];rfl) | rfl) (fun R hR=>?_)
   (try simp only [zG,zH,zK])
   go_wp2_with (go_at_call 33;(with_reducible refine (HN.out _ _ 3 hC7.tp ?_ ?_ ?_).mono ?_);(· omega);(· omega);(· omega);rintro e w8 ⟨u,rfl,u0,u1,hgw8,hTw8⟩)
   refine only_normal (hR _ _ (Keep.step (fun h=>Blk.grown h hgw8 (fun e=>by injection e with e;omega))) ?_)
   clear hR R
   simp only [Act.put,zI,zS,zZ]
   have hD:=hC7.call hT0.out hZ hgw8 hTw8
   have v:=hD.box.lt
   obtain⟨v0,g0⟩:=hD.box.cel.2 17 _ rfl
   refine still_pick [7] (by kernel_rfl) (by decide) ?_
   intro i hi
   obtain rfl:i=7:=by simpa using hi
   refine still_one (by first | (simp only [List.getElem?_toArray,List.getElem?_cons_succ,List.getElem?_cons_zero];rfl) | rfl) (fun R hR=>?_)
   (try simp only [zG,zH,zK])
   go_wp2_with fail
   refine only_normal (hR _ _ (Keep.step (fun h=>h)) ?_)
   clear hR R
   simp only [Act.put,zI,zS,zZ]
   refine still_pick [8] (by kernel_rfl) (by decide) ?_
   intro i hi
   obtain rfl:i=8:=by simpa using hi
   refine still_one (by first | (simp only [List.getElem?_toArray,List.getElem?_cons_succ,List.getElem?_cons_zero];rfl) | rfl) (fun R hR=>?_)
   (try simp only [zG,zH,zK])
   go_wp2_with fail
   refine only_normal (hR _ _ (Keep.step (fun h=>h)) ?_)
   clear hR R
   simp only [Act.put,zI,zS,zZ]
   refine still_pick [9] (by kernel_rfl) (by decide) ?_
   intro i hi
   obtain rfl:i=9:=by simpa using hi
   refine still_one (by first | (simp only [List.getElem?_toArray,List.getElem?_cons_succ,List.getElem?_cons_zero];rfl) | rfl) (fun R hR=>?_)
   (try simp only [zG,zH,zK])
   go_wp2_with fail
   refine only_normal (hR _ _ (fun i hn h hi=>?_) ?_)
   ·exfalso
    rcases (show i=0∨i=1∨i=2∨i=3∨i=4 by omega) with rfl | rfl | rfl | rfl | rfl
    ·exact absurd ⟨_,rfl,⟨0,.phase⟩,by simp,rfl,rfl⟩ hn
    ·exact absurd ⟨_,rfl,⟨1,.phase⟩,by simp,rfl,rfl⟩ hn
    ·exact absurd ⟨_,rfl,⟨2,.phase⟩,by simp,rfl,rfl⟩ hn
    ·exact absurd ⟨_,rfl,⟨3,.phase⟩,by simp,rfl,rfl⟩ hn
    ·exact absurd ⟨_,rfl,⟨4,.phase⟩,by simp,rfl,rfl⟩ hn
   clear hR R
   simp only [Act.put,zI,zS,zZ]
   refine still_done (by kernel_rfl) ?_
   obtain⟨tt,htt⟩:∃ tt,o+len+u=tt:=⟨_,rfl⟩
   have htt2:0≤tt∧tt≤20:=by omega
   have hC8:=hD.set hT0.out hZ 17 (.int .i64 (o+len+u))
   simp only [clV,zS,zZ] at hC8
   rw [htt] at hC8 ⊢
   replace hC8:Cb w T a cap xs (k5+1+1) Z (clV len 3 s t o tt 0 ⟨#[]⟩) _:=hC8
   clear hD v v0 g0 hgw8 hTw8 hbx hC7 hwr
   generalize w8.setCell ⟨Z,17,none⟩ (.int .i64 tt)=W8 at *
   have y:=hC8.box.lt
   have y1:=(hC8.box.cel.2 1 _ rfl).1
   go_upto_region 18 with (go_at_call 33;(with_reducible refine (HN.out _ _ 4 hC8.tp ?_ ?_ ?_).mono ?_);(· omega);(· omega);(· omega);rintro e w9 ⟨pr,rfl,pr0,pr1,hgw9,hTw9⟩;have hD:=hC8.call hT0.out hZ hgw9 hTw9;have v:=hD.box.lt;obtain⟨v0,g0⟩:=hD.box.cel.2 18 _ rfl)
   have hC9:=hD.set hT0.out hZ 18 (.int .i64 pr)
   simp only [clV,zS,zZ] at hC9
   replace hC9:Cb w T a cap xs (k5+1+1+1) Z (clV len 3 s t o tt pr ⟨#[]⟩) _:=hC9
   clear hD v v0 g0 hgw9 hTw9
   generalize w9.setCell ⟨Z,18,none⟩ (.int .i64 pr)=W9 at *
   obtain⟨LT,hLT⟩:∃ LT:List Value,clV len 3 s t o tt pr ⟨#[]⟩=LT:=⟨_,rfl⟩
   have hl22:LT.length=22:=by rw [← hLT];rfl
   have hone:∀ v∈LT,v.oneCell'=true:=by rw [← hLT];exact clV_one _ _ _ _ _ _ _ _
   have hbox:=hC9.box
   rw [hLT] at hbox
   have st:=st_blk (P:=Tryz.prog) hC9.res (by rw [hl22];rfl) hone
   obtain⟨hrB,hrT,hrR⟩:=hC9.row hT0.out LT
   obtain⟨kz,hkz⟩:∃ kz,22=kz:=⟨_,rfl⟩
   have lb:=ld_blk (P:=Tryz.prog) (hl22.trans hkz) hrR
   replace hLT:=Lib.hid hLT
   go_wp2_with (refine wpList_load_row rfl 81 (.tmp 7) rfl Z rfl 81 LT.toArray (0,0) _ hbox Tryz.underlying81 rfl (by rw [List.size_toArray,hl22];exact infoClip') ?_)
   have aE:∀ w,(isAgg 81).run Tryz.prog w=.ok true w:=Tryz.isAgg81
   have zE:∀ w,(Go.sizeOf 81).run Tryz.prog w=.ok kz w:=fun w=>by rw [← hkz];exact Tryz.sizeOf81 w
   simp [bodyPost,results,Tryz.results93,go_sem,aE,zE,lb]
   exact⟨⟨len,3,s,t,o,tt,pr,⟨#[]⟩,0,[]⟩,hLT.out.symm,ClM.of hlen1 (by omega) hs ht (by omega) (by omega) (by omega) (by decide),hrB,_,hrT,by omega,by omega⟩
  ·skip
   go_upto_region 15 with (go_at_call 124;(with_reducible refine (HS.out _ _ hC4.tp ?_).mono ?_);(· omega);rintro e w5 ⟨t,k5,rfl,ht,hgw5,hTw5,k5a,k5b⟩;have hD:=hC4.call hT0.out hZ hgw5 hTw5;have v:=hD.box.lt;obtain⟨v0,g0⟩:=hD.box.cel.2 9 _ rfl;obtain⟨v1,g1⟩:=hD.box.cel.2 10 _ rfl;obtain⟨v2,g2⟩:=hD.box.cel.2 11 _ rfl;obtain⟨v3,g3⟩:=hD.box.cel.2 12 _ rfl;obtain⟨v4,g4⟩:=hD.box.cel.2 13 _ rfl;obtain⟨v5,g5⟩:=hD.box.cel.2 14 _ rfl;obtain⟨v6,g6⟩:=hD.box.cel.2 15 _ rfl)
   have hC5:=((((((hD.set hT0.out hZ 9 (.int .i64 t.k)).set hT0.out hZ 10 (.string t.nm)).set hT0.out hZ 11 (.int .i64 t.an)).set hT0.out hZ 12 (.int .i64 t.ad)).set hT0.out hZ 13 (.int .i64 t.sn)).set hT0.out hZ 14 (.int .i64 t.sd)).set hT0.out hZ 15 (.bool t.sm)
   simp only [clV,zS,zZ] at hC5
   replace hC5:Cb w T a cap xs k5 Z (clV len 4 s t 0 0 0 ⟨#[]⟩) _:=hC5
   clear hD v v0 v1 v2 v3 v4 v5 v6 g0 g1 g2 g3 g4 g5 g6 hgw5 hTw5
   generalize ((((((w5.setCell ⟨Z,9,none⟩ (.int .i64 t.k)).setCell ⟨Z,10,none⟩ (.string t.nm)).setCell ⟨Z,11,none⟩ (.int .i64 t.an)).setCell ⟨Z,12,none⟩ (.int .i64 t.ad)).setCell ⟨Z,13,none⟩ (.int .i64 t.sn)).setCell ⟨Z,14,none⟩ (.int .i64 t.sd)).setCell ⟨Z,15,none⟩ (.bool t.sm)=W5 at *
   clear hC4 y y1
   go_upto_region 18 with (go_at_call 33;(with_reducible refine (HN.out _ _ 256 hC5.tp ?_ ?_ ?_).mono ?_);(· omega);(· omega);(· omega);rintro e w6 ⟨o,rfl,o0,o1,hgw6,hTw6⟩;have hD:=hC5.call hT0.out hZ hgw6 hTw6;have v:=hD.box.lt;obtain⟨v0,g0⟩:=hD.box.cel.2 18 _ rfl)
   have hC6:=hD.set hT0.out hZ 18 (.int .i64 o)
   simp only [clV,zS,zZ] at hC6
   replace hC6:Cb w T a cap xs (k5+1) Z (clV len 4 s t 0 0 o ⟨#[]⟩) _:=hC6
   clear hD v v0 g0 hgw6 hTw6
   generalize w6.setCell ⟨Z,18,none⟩ (.int .i64 o)=W6 at *
   obtain⟨LT,hLT⟩:∃ LT:List Value,clV len 4 s t 0 0 o ⟨#[]⟩=LT:=⟨_,rfl⟩
   have hl22:LT.length=22:=by rw [← hLT];rfl
   have hone:∀ v∈LT,v.oneCell'=true:=by rw [← hLT];exact clV_one _ _ _ _ _ _ _ _
   have hbox:=hC6.box
   rw [hLT] at hbox
   have st:=st_blk (P:=Tryz.prog) hC6.res (by rw [hl22];rfl) hone
   obtain⟨hrB,hrT,hrR⟩:=hC6.row hT0.out LT
   obtain⟨kz,hkz⟩:∃ kz,22=kz:=⟨_,rfl⟩
   have lb:=ld_blk (P:=Tryz.prog) (hl22.trans hkz) hrR
   replace hLT:=Lib.hid hLT
   go_wp2_with (refine wpList_load_row rfl 81 (.tmp 7) rfl Z rfl 81 LT.toArray (0,0) _ hbox Tryz.underlying81 rfl (by rw [List.size_toArray,hl22];exact infoClip') ?_)
   have aE:∀ w,(isAgg 81).run Tryz.prog w=.ok true w:=Tryz.isAgg81
   have zE:∀ w,(Go.sizeOf 81).run Tryz.prog w=.ok kz w:=fun w=>by rw [← hkz];exact Tryz.sizeOf81 w
   simp [bodyPost,results,Tryz.results93,go_sem,aE,zE,lb]
   exact⟨⟨len,4,s,t,0,0,o,⟨#[]⟩,0,[]⟩,hLT.out.symm,ClM.of hlen1 (by omega) hs ht (by omega) (by omega) (by omega) (by decide),hrB,_,hrT,by omega,by omega⟩
  ·skip
   have hgS:Gr W4 (W4.alloc (.cells #[.string ⟨#[65]⟩,.string ⟨#[82,69,69,76,32,55]⟩,.string ⟨#[116,104,101,32,101,110,100,46]⟩,.string ⟨#[49,50,58,51,48]⟩] 9)):=(Gr.refl W4).alloc _
   have hc4:=Cel.new W4 textsV.toArray 9
   have hzl:=hC4.by_.size
   go_upto_region 18 with (go_at_call 33;(with_reducible refine (HN.out _ _ 4 (hC4.gr hgS).tp ?_ ?_ ?_).mono ?_);(· omega);(· omega);(· omega);rintro e w5 ⟨r',rfl,r'0,r'1,hgw5,hTw5⟩;obtain⟨sn,rfl⟩:∃ sn:Nat,r'=sn:=⟨r'.toNat,by omega⟩;have hD:=(hC4.gr hgS).call hT0.out hZ hgw5 hTw5;have v:=hD.box.lt;obtain⟨v0,g0⟩:=hD.box.cel.2 19 _ rfl;have hc5:=Cel.grown hgw5 (fun e=>by injection e with e;omega) hc4;have cl:=hc5.lt;obtain⟨tx,htx,e0⟩:=text_at hc5 (show sn<4 by omega);have hsl:sn<4:=by omega)
   have hC6:=hD.set hT0.out hZ 19 (.string tx)
   simp only [clV,zS,zZ] at hC6
   replace hC6:Cb w T a cap xs (k4+1) Z (clV len 5 s blkS 0 0 0 tx) _:=hC6
   clear hD v v0 g0 hgw5 hTw5 hc4 hc5 cl e0 hgS
   generalize w5.setCell ⟨Z,19,none⟩ (.string tx)=W6 at *
   obtain⟨LT,hLT⟩:∃ LT:List Value,clV len 5 s blkS 0 0 0 tx=LT:=⟨_,rfl⟩
   have hl22:LT.length=22:=by rw [← hLT];rfl
   have hone:∀ v∈LT,v.oneCell'=true:=by rw [← hLT];exact clV_one _ _ _ _ _ _ _ _
   have hbox:=hC6.box
   rw [hLT] at hbox
   have st:=st_blk (P:=Tryz.prog) hC6.res (by rw [hl22];rfl) hone
   obtain⟨hrB,hrT,hrR⟩:=hC6.row hT0.out LT
   obtain⟨kz,hkz⟩:∃ kz,22=kz:=⟨_,rfl⟩
   have lb:=ld_blk (P:=Tryz.prog) (hl22.trans hkz) hrR
   replace hLT:=Lib.hid hLT
   go_wp2_with (refine wpList_load_row rfl 81 (.tmp 7) rfl Z rfl 81 LT.toArray (0,0) _ hbox Tryz.underlying81 rfl (by rw [List.size_toArray,hl22];exact infoClip') ?_)
   have aE:∀ w,(isAgg 81).run Tryz.prog w=.ok true w:=Tryz.isAgg81
   have zE:∀ w,(Go.sizeOf 81).run Tryz.prog w=.ok kz w:=fun w=>by rw [← hkz];exact Tryz.sizeOf81 w
   simp [bodyPost,results,Tryz.results93,go_sem,aE,zE,lb]
   exact⟨⟨len,5,s,blkS,0,0,0,tx,0,[]⟩,hLT.out.symm,ClM.of hlen1 (by omega) hs SrM.blk (by omega) (by omega) (by omega) htx,hrB,_,hrT,by omega,by omega⟩
theorem SrM.ok {s:Sr} (h:SrM s):SrOk s:=by
 have h1:=h.k
 have h2:=h.nm
 have h3:=h.an
 have h4:=h.ad
 have h5:=h.sn
 have h6:=h.sd
 exact⟨⟨by omega,by omega⟩,by omega,⟨by omega,by omega⟩,⟨by omega,by omega⟩,⟨by omega,by omega⟩,⟨by omega,by omega⟩⟩
theorem ClM.ok {c:Cl} (h:ClM c):ClOk c:=by
 have h1:=h.len
 have h2:=h.kind
 have h3:=h.off
 have h4:=h.tot
 have h5:=h.par
 have h6:=h.tx
 have h7:=h.gain
 have h8:=h.ch
 exact⟨⟨by omega,by omega⟩,⟨by omega,by omega⟩,h.a.ok,h.b.ok,⟨by omega,by omega⟩,⟨by omega,by omega⟩,⟨by omega,by omega⟩,by omega,⟨by omega,by omega⟩,by rw [h8];decide⟩
def nextC (c:Cl) (n:Int):Cl:=⟨n,c.kind,⟨c.a.k,c.a.nm,c.a.an+c.len * c.a.ad,c.a.ad,c.a.sn,c.a.sd,c.a.sm⟩,c.b,c.off,c.tot,c.par,c.tx,c.gain,c.ch⟩
theorem mul_bnd {x y:Int} (h1:1≤x) (h2:x≤9) (h3:0≤y) (h4:y≤2000):0≤x * y∧x * y≤18000:=by
 refine⟨Int.mul_nonneg (by omega) h3,?_⟩
 have h5:=Int.mul_le_mul h2 h4 h3 (by omega)
 omega
theorem ClM.next {c:Cl} (h:ClM c) {n:Int} (h0:1≤n) (h9:n≤9):ClOk (nextC c n)∧(nextC c n).ch=[]:=by
 have h1:=h.len
 have h2:=h.kind
 have h3:=h.off
 have h4:=h.tot
 have h5:=h.par
 have h6:=h.tx
 have h7:=h.gain
 have h8:=h.ch
 have a:=h.a.ok
 have a1:=h.a.an
 have a2:=h.a.ad
 have m:=mul_bnd h1.1 h1.2 a2.1 a2.2
 refine⟨⟨⟨by show _≤n;omega,by show n≤_;omega⟩,⟨by show _≤c.kind;omega,by show c.kind≤_;omega⟩,⟨a.k,a.nm,⟨by show _≤c.a.an+c.len * c.a.ad;omega,by show c.a.an+c.len * c.a.ad≤_;omega⟩,a.ad,a.sn,a.sd⟩,h.b.ok,⟨by show _≤c.off;omega,by show c.off≤_;omega⟩,⟨by show _≤c.tot;omega,by show c.tot≤_;omega⟩,⟨by show _≤c.par;omega,by show c.par≤_;omega⟩,by show c.tx.size≤_;omega,⟨by show _≤c.gain;omega,by show c.gain≤_;omega⟩,by show c.ch.length * 8≤_;rw [h8];decide⟩,h8⟩
structure Tl (w:World) (T:Nat) (a:Option Addr) (cap:Nat) (xs:List Int) (k:Nat) (tv:Value) (L:List Cl) (wx:World):Prop where
 by_:ByT w T wx
 tp:Tape wx T a cap xs k
 own:wx.ownsRow w.heap.size 81 22 tv L.length (cflat (L.map cm0))
theorem Tl.gr {w:World} {T:Nat} {a:Option Addr} {cap:Nat} {xs:List Int} {k:Nat} {tv:Value} {L:List Cl} {wx wy:World} (h:Tl w T a cap xs k tv L wx) (hg:Gr wx wy):Tl w T a cap xs k tv L wy:=
 ⟨h.by_.gr hg,h.tp.gr hg,own_gr hg h.own⟩
theorem Tl.call {w:World} {T:Nat} {a:Option Addr} {cap:Nat} {xs:List Int} {k k':Nat} {tv:Value} {L:List Cl} {wx wy:World} (h:Tl w T a cap xs k tv L wx) (hT:T<w.heap.size) (hg:wx.grownBy wy (some T)) (ht:Tape wy T a cap xs k'):Tl w T a cap xs k' tv L wy:=
 ⟨h.by_.step hg (fun k h=>by injection h with h;exact .inl h.symm),ht,World.ownsRow.kept h.own hg (.inr (fun e=>by have:=own_ge h.own _ e;omega))⟩
theorem Tl.app {w:World} {T:Nat} {a:Option Addr} {cap:Nat} {xs:List Int} {k k0:Nat} {tv v9:Value} {L:List Cl} {wx w9:World} (h:Tl w T a cap xs k tv L wx) (h0:Tape w T a cap xs k0) (c:Cl)
  (hown:w9.ownsRow w.heap.size 81 22 v9 (L.length+1) (cflat (L.map cm0) ++ (cm0 c).cells)) (hg:wx.grownBy w9 tv.ownBlock):Tl w T a cap xs k v9 (L ++ [c]) w9:=by
 have hT:=h0.cel.lt
 have hge:=own_ge h.own
 refine⟨h.by_.step hg (fun k hk=>.inr (hge k hk)),Tape.later h0 hg (fun e=>by have:=hge _ e;omega) hge h.tp,?_⟩
 rw [List.length_append,List.map_append,cflat_append]
 have hone:cflat (List.map cm0 [c])=(cm0 c).cells:=by
  show (cm0 c).cells ++ []=_
  exact List.append_nil _
 rw [hone]
 exact hown
theorem Tl.other {w:World} {T:Nat} {a:Option Addr} {cap:Nat} {xs:List Int} {k k0:Nat} {tv:Value} {L:List Cl} {wx:World} (h:Tl w T a cap xs k tv L wx) (h0:Tape w T a cap xs k0) {p:Addr} (hp:w.heap.size≤p.block) (hne:tv.ownBlock≠some p.block) (u:Value):Tl w T a cap xs k tv L (wx.setCell p u):=by
 have hT:=h0.cel.lt
 exact⟨h.by_.set hp u,Tape.later h0 (grown_setCell _ _ _) (fun h=>by injection h with h;omega) (fun k h=>by injection h with h;omega) h.tp,World.ownsRow.kept h.own (grown_setCell _ _ _) (.inr hne)⟩
theorem infoClz:(Tryz.prog.info? 81).map (fun i=>(i.zero,i.size,i.bytes))=some (some (.agg #[.int .i64 0,.int .i64 0,.int .i64 0,.string ⟨#[]⟩,.int .i64 0,.int .i64 0,.int .i64 0,.int .i64 0,.bool false,.int .i64 0,.string ⟨#[]⟩,.int .i64 0,.int .i64 0,.int .i64 0,.int .i64 0,.bool false,.int .i64 0,.int .i64 0,.int .i64 0,.string ⟨#[]⟩,.int .i64 0,.slice none 0 0]),22,216):=by kernel_rfl
set_option maxRecDepth 20000 in
set_option maxHeartbeats 8000000 in
theorem ttrack_any (T:Nat) (a:Option Addr) (cap:Nat) (xs:List Int) (k:Nat) (w:World) (hT:Tape w T a cap xs k) (hk:k≤1000) :
  Calls Tryz.prog 48 #[.pointer (some ⟨T,0,none⟩),.int .i64 3,.int .i64 2,.int .i64 9] w fun e w'=>∃ (v:Value) (L:List Cl),e=.returned v∧ByT w T w'∧w'.ownsRow w.heap.size 81 22 v L.length (cflat (L.map cm0))∧L.length≤20∧∀ c∈L,ClOk c∧c.ch=[]:=by
 have HN:Hid (∀ (w':World) (k':Nat) (n:Int),Tape w' T a cap xs k'→k'≤1000000→1≤n→n≤2147483647→Calls Tryz.prog 33 #[.pointer (some ⟨T,0,none⟩),.int .i64 n] w' fun e w''=>∃ r:Int,e=.returned (.int .i64 r)∧0≤r∧r<n∧w'.grownBy w'' (some T)∧Tape w'' T a cap xs (k'+1)):=fun w' k' n h1 h2 h3 h4=>next_any T a cap xs k' n w' h1 h2 h3 h4
 have HC:Hid (∀ (w':World) (k':Nat),Tape w' T a cap xs k'→k'≤5000→Calls Tryz.prog 93 #[.pointer (some ⟨T,0,none⟩),.int .i64 3,.int .i64 2] w' fun e w''=>∃ (c:Cl) (k'':Nat),e=.returned (.agg (cm0 c).cells.toArray)∧ClM c∧ByT w' T w''∧Tape w'' T a cap xs k''∧k'≤k''∧k''≤k'+20):=Lib.hid fun w' k' h1 h2=>clip_any T a cap xs k' w' h1 h2
 have hTl:=hT.cel.lt
 have hT0:=Lib.hid hT
 obtain⟨ic,hic,hic0,hic1,hic2⟩:=info_parts infoClz
 go_enter Tryz.func48,Tryz.ntmps48
 go_wp2_with (go_at_call 33;(with_reducible refine (HN.out _ k 10 hT ?_ ?_ ?_).mono ?_);(· omega);(· omega);(· omega);rintro e w1 ⟨n,rfl,n0,n10,hg1,hT1⟩)
 have hL1:Tl w T a cap xs (k+1) (.slice none 0 0) [] w1:=⟨(ByT.refl w T).step hg1 (fun k h=>by injection h with h;exact .inl h.symm),hT1,World.ownsRow_nil _ _ _ _⟩
 clear hT hg1 hT1
 go_loopw [9,10] (fun tv n wr=>∃ (j k':Nat) (L:List Cl),n=.int .i64 j∧j≤9∧k'+22 * j≤k+220∧L.length+2 * j≤20∧Tl w T a cap xs k' tv L wr∧Hid (∀ c∈L,ClOk c∧c.ch=[])) (fun _ n _=>(RowKit.intOf n).toNat)
 case atStart=>exact⟨n.toNat,k+1,[],by rw [Int.toNat_of_nonneg n0],by omega,by omega,by simp;omega,hL1,Lib.hid fun c hc=>by cases hc⟩
 case round=>
  obtain⟨j,k',L,rfl,hj,hkj,hlj,hTl',hok⟩:=hrel
  clear hL1
  obtain⟨pv,cv,rfl⟩:=own_shape hTl'.own
  by_cases g:0<j
  ·have q1:decide (0<(j:Int))=true:=decide_eq_true (by omega)
   go_upto_region 6 with (go_at_call 93;(with_reducible refine (HC.out _ _ hTl'.tp ?_).mono ?_);(· omega);rintro e w2 ⟨c,k2,rfl,hM,hg2,hT2,ka,kb⟩;have hTa:=hTl'.call hTl hg2 hT2;obtain⟨LL,hLL⟩:∃ LL:List Value,(cm0 c).cells=LL:=⟨_,rfl⟩;rw [hLL];have hl22:LL.length=22:=(by rw [← hLL];rfl);have hone:∀ v∈LL,v.oneCell'=true:=(by rw [← hLL];exact (cm0_ch w hM.ch).one);have st:=st_new (P:=Tryz.prog) w2 81 #[.int .i64 0,.int .i64 0,.int .i64 0,.string ⟨#[]⟩,.int .i64 0,.int .i64 0,.int .i64 0,.int .i64 0,.bool false,.int .i64 0,.string ⟨#[]⟩,.int .i64 0,.int .i64 0,.int .i64 0,.int .i64 0,.bool false,.int .i64 0,.int .i64 0,.int .i64 0,.string ⟨#[]⟩,.int .i64 0,.slice none 0 0] LL (by rw [hl22];exact infoClip') (by rw [hl22];rfl) hone;replace hLL:=Lib.hid hLL)
   have hgB:Gr w2 (w2.alloc (.cells LL.toArray 81)):=(Gr.refl w2).alloc _
   have hTb:=hTa.gr hgB
   have hbx:=Blk.new w2 LL 81
   have hgr2:=World.grownBy.size hg2
   have hrow:∀ g,(Value.slice pv L.length cv).ownBlock=some g→g<w2.heap.size:=fun g hg=>Nat.lt_of_lt_of_le (hTl'.own.lt g hg).2 hgr2
   have hwX:w.heap.size≤w2.heap.size:=hTa.by_.size
   obtain⟨X,hX⟩:∃ X,w2.heap.size=X:=⟨_,rfl⟩
   obtain⟨W2,hW2⟩:∃ W2,w2.alloc (.cells LL.toArray 81)=W2:=⟨_,rfl⟩
   rw [hW2] at hTb hbx ⊢
   rw [hX] at hbx hrow hwX ⊢
   clear hTa hgB hgr2 hTl' hg2 hT2 st hX hW2
   have hg8:=(Gr.refl W2).alloc (.cells LL.toArray 81)
   have hTc:=hTb.gr hg8
   have hrd:=Rd.new W2 LL.toArray 81 1 22 1 (by simpa using hl22)
   have hWz:w.heap.size≤(W2.alloc (.cells LL.toArray 81)).heap.size:=hTc.by_.size
   have hown6:=hTc.own
   go_upto_region 7 with (first | (refine wpList_load_row rfl 81 (.tmp 11) rfl X rfl 81 LL.toArray (0,0) _ hbx Tryz.underlying81 rfl (by rw [List.size_toArray,hl22];exact infoClip') ?_) | (refine wpList_bs1 rfl 35 81 (.tmp 27) rfl 22 (by kernel_rfl) (by kernel_rfl) (by omega) (by omega) LL hl22 rfl ?_) | (at_builtin;go_loud (refine wpList_append_rd rfl (.tmp 26) (.tmp 28) 35 rfl w.heap.size 81 ic (.agg #[.int .i64 0,.int .i64 0,.int .i64 0,.string ⟨#[]⟩,.int .i64 0,.int .i64 0,.int .i64 0,.int .i64 0,.bool false,.int .i64 0,.string ⟨#[]⟩,.int .i64 0,.int .i64 0,.int .i64 0,.int .i64 0,.bool false,.int .i64 0,.int .i64 0,.int .i64 0,.string ⟨#[]⟩,.int .i64 0,.slice none 0 0]) 22 216 (by kernel_rfl) hic hic0 hic1 hic2 rfl (by decide) (.slice pv L.length cv) _ _ rfl hown6 _ 1 LL rfl hrd hone ?_ ?_ ?_ ?_);(· unfold maxLen;omega);(· omega);(· exact hWz);intro v9 w9 hown9 hgrow9;obtain⟨p9,c9,rfl⟩:=own_shape hown9))
   have hTd:Tl w T a cap xs k2 (.slice p9 (L.length+1) c9) (L ++ [c]) w9:=hTc.app hT0.out c (by rw [hLL.out];exact hown9) hgrow9
   have hbx9:Blk w9 X 81 LL:=(hbx.gr hg8).grown hgrow9 (fun e=>by have:=hrow X e;omega)
   clear hTb hbx hg8 hTc hrd hWz hown6 hown9 hgrow9 hrow
   go_upto_region 8 with (go_at_call 33;(with_reducible refine (HN.out _ _ 4 hTd.tp ?_ ?_ ?_).mono ?_);(· omega);(· omega);(· omega);rintro e w10 ⟨r,rfl,r0,r4,hg10,hT10⟩)
   have hTe:=hTd.call hTl hg10 hT10
   have hbx10:=hbx9.grown hg10 (fun e=>by injection e with e;omega)
   clear hTd hbx9 hg10 hT10
   have e1:((j:Int) - 1)=((j - 1:Nat):Int):=by omega
   have hlL:(L ++ [c]).length=L.length+1:=by simp
   have hok2:∀ d∈L ++ [c],ClOk d∧d.ch=[]:=fun d hd=>by
    rcases List.mem_append.1 hd with h | h
    ·exact hok.out d h
    ·rw [List.mem_singleton.1 h];exact⟨hM.ok,hM.ch⟩
   replace hok2:=Lib.hid hok2
   by_cases cr:r=0
   ·subst cr
    have q2:decide ((L.length:Int)+1<64)=true:=decide_eq_true (by omega)
    have q3:decide (L.length+1<64)=true:=decide_eq_true (by omega)
    have y:=hbx10.lt
    have st:=st_new (P:=Tryz.prog) w10 81 #[.int .i64 0,.int .i64 0,.int .i64 0,.string ⟨#[]⟩,.int .i64 0,.int .i64 0,.int .i64 0,.int .i64 0,.bool false,.int .i64 0,.string ⟨#[]⟩,.int .i64 0,.int .i64 0,.int .i64 0,.int .i64 0,.bool false,.int .i64 0,.int .i64 0,.int .i64 0,.string ⟨#[]⟩,.int .i64 0,.slice none 0 0] LL (by rw [hl22];exact infoClip') (by rw [hl22];rfl) hone
    go_upto_region 10 with (refine wpList_load_row rfl 81 (.tmp 11) rfl X rfl 81 LL.toArray (0,0) _ hbx10 Tryz.underlying81 rfl (by rw [List.size_toArray,hl22];exact infoClip') ?_)
    have hgB:Gr w10 (w10.alloc (.cells LL.toArray 81)):=(Gr.refl w10).alloc _
    have hTf:=hTe.gr hgB
    have hbX:=hbx10.gr hgB
    have hbY:=Blk.new w10 LL 81
    have hXY:X<w10.heap.size:=y
    obtain⟨Y,hY⟩:∃ Y,w10.heap.size=Y:=⟨_,rfl⟩
    obtain⟨W3,hW3⟩:∃ W3,w10.alloc (.cells LL.toArray 81)=W3:=⟨_,rfl⟩
    have hneY:(Value.slice p9 (L.length+1) c9).ownBlock≠some Y:=fun e=>by
     have:=(hTe.own.lt Y (by simpa [Value.ownBlock] using e)).2
     omega
    rw [hW3] at hTf hbX hbY ⊢
    rw [hY] at hbY hXY ⊢
    clear hTe hbx10 st hgB hY hW3 y
    go_upto_region 11 with (go_at_call 33;(with_reducible refine (HN.out _ _ 4 hTf.tp ?_ ?_ ?_).mono ?_);(· omega);(· omega);(· omega);rintro e w11 ⟨m,rfl,m0,m4,hg11,hT11⟩;have hbY11:=hbY.grown hg11 (fun e=>by injection e with e;omega);have y:=hbY11.lt;obtain⟨y0,yf0⟩:=hbY11.cel.2 0 (.int .i64 c.len) (by rw [← hLL.out];rfl))
    have hTg:=(hTf.call hTl hg11 hT11).other hT0.out (p:=⟨Y,0,none⟩) (by simp only;omega) hneY (.int .i64 (1+m))
    have hbX11:=(hbX.grown hg11 (fun e=>by injection e with e;omega)).other (p:=⟨Y,0,none⟩) (by simp only;omega) (.int .i64 (1+m))
    have hbY12:=hbY11.set 0 (.int .i64 (1+m))
    clear hTf hbX hbY hg11 hT11 hbY11 y y0 yf0
    generalize w11.setCell ⟨Y,0,none⟩ (.int .i64 (1+m))=W4 at *
    obtain⟨nl,hnl⟩:∃ nl,1+m=nl:=⟨_,rfl⟩
    rw [hnl] at hbY12 ⊢
    have hnl2:1≤nl∧nl≤9:=by omega
    have x:=hbX11.lt
    have x0:=(hbX11.cel.2 0 (.int .i64 c.len) (by rw [← hLL.out];rfl)).1
    have x1:=(hbX11.cel.2 1 (.int .i64 c.kind) (by rw [← hLL.out];rfl)).1
    have x6:=(hbX11.cel.2 6 (.int .i64 c.a.sn) (by rw [← hLL.out];rfl)).1
    have x7:=(hbX11.cel.2 7 (.int .i64 c.a.sd) (by rw [← hLL.out];rfl)).1
    have x9:=(hbX11.cel.2 9 (.int .i64 c.b.k) (by rw [← hLL.out];rfl)).1
    have x10:=(hbX11.cel.2 10 (.string c.b.nm) (by rw [← hLL.out];rfl)).1
    have x11:=(hbX11.cel.2 11 (.int .i64 c.b.an) (by rw [← hLL.out];rfl)).1
    have x12:=(hbX11.cel.2 12 (.int .i64 c.b.ad) (by rw [← hLL.out];rfl)).1
    have x13:=(hbX11.cel.2 13 (.int .i64 c.b.sn) (by rw [← hLL.out];rfl)).1
    have x14:=(hbX11.cel.2 14 (.int .i64 c.b.sd) (by rw [← hLL.out];rfl)).1
    have x15:=(hbX11.cel.2 15 (.bool c.b.sm) (by rw [← hLL.out];rfl)).1
    go_cut [64] (fun vb wx=>∃ B:Bool,vb=.bool B∧wx=W4)
    case first=>
     go_wp2
     all_goals (go_meet;exact⟨_,rfl,rfl⟩)
    case rest=>
     obtain⟨B,rfl,rfl⟩:=hcut
     cases B with
     | false=>
      go_wp2
      go_roundw
      case rel=>exact⟨j - 1,k2+1+1,L ++ [c],by first | rfl | rw [e1],by omega,by omega,by omega,by rw [hlL] at *;exact hTg,hok2⟩
      case measure=>simp [RowKit.intOf];omega
     | true=>
      have hmb:=mul_bnd hM.len.1 hM.len.2 hM.a.ad.1 hM.a.ad.2
      have hab:=hM.a.an
      have y:=hbY12.lt
      obtain⟨y4,yf4⟩:=hbY12.cel.2 4 (.int .i64 c.a.an) (by rw [← hLL.out];rfl)
      have y5:=(hbY12.cel.2 5 (.int .i64 c.a.ad) (by rw [← hLL.out];rfl)).1
      go_upto_region 13 with fail
      have hTh:=hTg.other hT0.out (p:=⟨Y,4,none⟩) (by simp only;omega) hneY (.int .i64 (c.a.an+c.len * c.a.ad))
      have hbY13:=hbY12.set 4 (.int .i64 (c.a.an+c.len * c.a.ad))
      obtain⟨LN,hLN⟩:∃ LN,(LL.set 0 (.int .i64 nl)).set 4 (.int .i64 (c.a.an+c.len * c.a.ad))=LN:=⟨_,rfl⟩
      rw [hLN] at hbY13
      have hLN2:(cm0 (nextC c nl)).cells=LN:=by rw [← hLN,← hLL.out];rfl
      have hNx:=hM.next hnl2.1 hnl2.2
      have hn22:LN.length=22:=by rw [← hLN2];rfl
      have honeN:∀ v∈LN,v.oneCell'=true:=by rw [← hLN2];exact (cm0_ch w hNx.2).one
      replace hLN2:=Lib.hid hLN2
      clear hLN x x0 x1 x6 x7 x9 x10 x11 x12 x13 x14 x15 y y4 yf4 y5 hTg hbY12 hbX11
      generalize wc.setCell ⟨Y,4,none⟩ (.int .i64 (c.a.an+c.len * c.a.ad))=W5 at *
      have hg8:=(Gr.refl W5).alloc (.cells LN.toArray 81)
      have hTi:=hTh.gr hg8
      have hrd:=Rd.new W5 LN.toArray 81 1 22 1 (by simpa using hn22)
      have hWz:w.heap.size≤(W5.alloc (.cells LN.toArray 81)).heap.size:=hTi.by_.size
      have hown6:=hTi.own
      go_wp2_with (first | (refine wpList_load_row rfl 81 (.tmp 13) rfl Y rfl 81 LN.toArray (0,0) _ hbY13 Tryz.underlying81 rfl (by rw [List.size_toArray,hn22];exact infoClip') ?_) | (refine wpList_bs1 rfl 35 81 (.tmp 81) rfl 22 (by kernel_rfl) (by kernel_rfl) (by omega) (by omega) LN hn22 rfl ?_) | (at_builtin;go_loud (refine wpList_append_rd rfl (.tmp 80) (.tmp 82) 35 rfl w.heap.size 81 ic (.agg #[.int .i64 0,.int .i64 0,.int .i64 0,.string ⟨#[]⟩,.int .i64 0,.int .i64 0,.int .i64 0,.int .i64 0,.bool false,.int .i64 0,.string ⟨#[]⟩,.int .i64 0,.int .i64 0,.int .i64 0,.int .i64 0,.bool false,.int .i64 0,.int .i64 0,.int .i64 0,.string ⟨#[]⟩,.int .i64 0,.slice none 0 0]) 22 216 (by kernel_rfl) hic hic0 hic1 hic2 rfl (by decide) (.slice p9 (L.length+1) c9) _ _ rfl hown6 _ 1 LN.toArray.toList rfl hrd (by simpa using honeN) ?_ ?_ ?_ ?_);(· unfold maxLen;omega);(· omega);(· exact hWz);intro v10 w12 hown9 hgrow9;obtain⟨p9,c9,rfl⟩:=own_shape hown9))
      have hTj:Tl w T a cap xs (k2+1+1) (.slice p9 ((L ++ [c]).length+1) c9) (L ++ [c] ++ [nextC c nl]) w12:=hTi.app hT0.out (nextC c nl) (by rw [hLN2.out];exact hown9) hgrow9
      rw [hlL] at hTj
      have hok3:∀ d∈L ++ [c] ++ [nextC c nl],ClOk d∧d.ch=[]:=fun d hd=>by
       rcases List.mem_append.1 hd with h | h
       ·exact hok2.out d h
       ·rw [List.mem_singleton.1 h];exact hNx
      replace hok3:=Lib.hid hok3
      have hl3:(L ++ [c] ++ [nextC c nl]).length=L.length+2:=by simp
      go_roundw
      case rel=>exact⟨j - 1,k2+1+1,L ++ [c] ++ [nextC c nl],by first | rfl | rw [e1],by omega,by omega,by omega,hTj,hok3⟩
      case measure=>simp [RowKit.intOf];omega
   ·have q2:(r == 0)=false:=by simp [cr]
    go_wp2
    go_roundw
    case rel=>exact⟨j - 1,k2+1,L ++ [c],by first | rfl | rw [e1],by omega,by omega,by omega,by rw [hlL] at *;exact hTe,hok2⟩
    case measure=>simp [RowKit.intOf];omega
  ·have q1:decide (0<(j:Int))=false:=decide_eq_false (by omega)
   go_wp2
   go_ret
   exact⟨_,L,rfl,hTl'.by_,hTl'.own,by omega,hok.out⟩
end Go.Proofs.YtgbiodnfpbhjiaaGreatDoor
