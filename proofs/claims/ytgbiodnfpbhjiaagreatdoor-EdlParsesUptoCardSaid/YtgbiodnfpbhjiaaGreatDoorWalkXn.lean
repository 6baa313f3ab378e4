/-
  Plain law of the program's reader of an event: the words that say its kind, and its line.
  Conditions: none.
-/
import Derived.Test.YtgbiodnfpbhjiaaGreatDoorWalkOfC
namespace Go.Proofs.YtgbiodnfpbhjiaaGreatDoor
open Go.RowKit Go.Lib
set_option linter.unusedSimpArgs false
set_option linter.unusedVariables false
theorem kdW_len (x:Ev):(kdW x).length≤2∧1≤(kdW x).length:=by
 unfold kdW
 split
 ·simp
 ·split <;> simp
theorem vKd_iff {e:Ev}:vKd e=true↔((e.k=0∧e.fr=0∧e.p=0)∨(e.k=1∧1≤e.fr∧e.fr≤999∧e.p=0)∨(e.k=2∧1≤e.fr∧e.fr≤999∧0≤e.p∧e.p≤3)):=by
 unfold vKd
 simp only [Bool.or_eq_true,decide_eq_true_eq,or_assoc]
theorem b8_val {x:Int} (h0:0≤x) (h1:x<256):((b8 x).toNat:Int)=x:=by
 unfold b8
 simp [UInt8.toNat_ofNat']
 omega
theorem kd_c {b:List UInt8} {r:List (List UInt8)}:KdR ([67] :: b :: r) 0 0 0 1 true:=by
 intro x rest hv he
 unfold kdW at *
 rcases vKd_iff.1 hv with ⟨k,f,p⟩ | ⟨k,_,_,p⟩ | ⟨k,_,_,_,_⟩
 ·exact⟨rfl,k.symm,p.symm,f.symm,by rw [if_pos k];rfl⟩
 ·rw [if_neg (by omega),if_pos k] at he
  simp at he
 ·rw [if_neg (by omega),if_neg (by omega)] at he
  simp at he
theorem kd_d {b:List UInt8} {r:List (List UInt8)} {fr:Int} {ok:Bool} (h:∀ y,Lib.parseIntB 64 b=.ok y→ok=true∧fr=y):KdR ([68] :: b :: r) 1 0 fr 2 ok:=by
 intro x rest hv he
 unfold kdW at *
 rcases vKd_iff.1 hv with ⟨k,f,p⟩ | ⟨k,f0,f1,p⟩ | ⟨k,_,_,_,_⟩
 ·rw [if_pos k] at he
  simp at he
 ·rw [if_neg (by omega),if_pos k] at he ⊢
  simp only [List.cons_append,List.nil_append,List.cons.injEq,true_and] at he
  obtain⟨h1,h2⟩:=h x.fr (by rw [he.1];exact t3_parse (by omega) (by omega))
  exact⟨h1,k.symm,p.symm,h2,rfl⟩
 ·rw [if_neg (by omega),if_neg (by omega)] at he
  simp at he
theorem kd_w {q:UInt8} {b:List UInt8} {r:List (List UInt8)} {fr:Int} {ok:Bool} (h:∀ y,Lib.parseIntB 64 b=.ok y→ok=true∧fr=y):KdR ([87,q] :: b :: r) 2 ((q.toNat:Int) - 48) fr 2 ok:=by
 intro x rest hv he
 unfold kdW at *
 rcases vKd_iff.1 hv with ⟨k,f,p⟩ | ⟨k,f0,f1,p⟩ | ⟨k,f0,f1,p0,p1⟩
 ·rw [if_pos k] at he
  simp at he
 ·rw [if_neg (by omega),if_pos k] at he
  simp at he
 ·rw [if_neg (by omega),if_neg (by omega)] at he ⊢
  simp only [List.cons_append,List.nil_append,List.cons.injEq,true_and,and_true] at he
  obtain⟨h1,h2⟩:=h x.fr (by rw [he.2.1];exact t3_parse (by omega) (by omega))
  have hq:=b8_val (x:=48+x.p) (by omega) (by omega)
  rw [← he.1] at hq
  exact⟨h1,k.symm,by omega,h2,rfl⟩
theorem kd_n {a b:List UInt8} {r:List (List UInt8)} {k p fr:Int} {j:Nat} (h0:a≠[67]) (h1:a≠[68]) (h2:∀ q,a≠[87,q]):KdR (a :: b :: r) k p fr j false:=by
 intro x rest hv he
 unfold kdW at he
 rcases vKd_iff.1 hv with ⟨k,f,p⟩ | ⟨k,f0,f1,p⟩ | ⟨k,f0,f1,p0,p1⟩
 ·rw [if_pos k] at he
  simp only [List.cons_append,List.cons.injEq] at he
  exact absurd he.1 h0
 ·rw [if_neg (by omega),if_pos k] at he
  simp only [List.cons_append,List.cons.injEq] at he
  exact absurd he.1 h1
 ·rw [if_neg (by omega),if_neg (by omega)] at he
  simp only [List.cons_append,List.cons.injEq] at he
  exact absurd he.1 (h2 _)
theorem ev_key {b:Int} {d:Bool} {S:List UInt8} {num:Int} {x:Ev} {least:Int} (ho:C19.okB b d=true) (h0:0≤num) (hn:num<1000) (hl:0≤least) (hx:VE x least (C19.dayN b d)) (he:evL b d num x=S) :
  split S [32]=t3 num :: reelB x :: [86] :: (kdW x ++ labW b d x)∧vKd x=true∧(0≤x.i∧x.i<C19.dayN b d)∧(0≤x.o∧x.o<C19.dayN b d)∧(0≤x.f∧x.f<C19.dayN b d)∧(0≤x.t∧x.t<C19.dayN b d)∧reelW (toBa (reelB x))=x.reel:=by
 have hw:=(evL_split ho hx h0 hn).1
 rw [he] at hw
 obtain⟨d0,d1⟩:=day_bounds ho
 have hxl:=hx.l
 have hxf:=hx.ft
 have hxd:=hx.d
 have bi:0≤x.i∧x.i<C19.dayN b d∧0≤x.o∧x.o<C19.dayN b d:=by
  rcases hx.rl with ⟨_,h2,h3⟩ | ⟨_,_,h2,h3,h4,h5⟩ <;> omega
 exact⟨hw,vKd_iff.2 hx.kd,⟨bi.1,bi.2.1⟩,⟨bi.2.2.1,bi.2.2.2⟩,⟨by omega,by omega⟩,⟨by omega,hxd⟩,reelW_of hx.reel⟩
theorem pe_none {b:Int} {d:Bool} {S:List UInt8} {e:Ev} (h:∀ x r0 r1,split S [32]=r0 :: r1 :: [86] :: (kdW x ++ labW b d x)→vKd x=true→C19.okB b d=true→(0≤x.i∧x.i<C19.dayN b d)→(0≤x.o∧x.o<C19.dayN b d)→(0≤x.f∧x.f<C19.dayN b d)→(0≤x.t∧x.t<C19.dayN b d)→False):PeB b d S e false:=by
 intro num x least ho h0 hn hl hx he
 obtain⟨hw,hk,b1,b2,b3,b4,_⟩:=ev_key ho h0 hn hl hx he
 exact (h x _ _ hw hk ho b1 b2 b3 b4).elim
theorem pe_short {b:Int} {d:Bool} {S:List UInt8} {e:Ev} (h:(split S [32]).length<5):PeB b d S e false:=by
 refine pe_none fun x r0 r1 hw _ _ _ _ _ _=>?_
 rw [hw] at h
 have:=kdW_len x
 unfold labW at h
 simp at h
 omega
theorem pe_kind {b:Int} {d:Bool} {S:List UInt8} {e:Ev} {k p fr:Int} {j:Nat} {ok:Bool} (hK:KdR ((split S [32]).drop 3) k p fr j ok) (h:ok=false∨((split S [32]).drop 3).length≠j+4):PeB b d S e false:=by
 refine pe_none fun x r0 r1 hw hv _ _ _ _ _=>?_
 rw [hw] at h hK
 obtain⟨h1,_,_,_,h5⟩:=hK x _ hv rfl
 rcases h with h | h
 ·rw [h] at h1;cases h1
 ·apply h
  unfold labW
  simp
  omega
theorem pe_code {b:Int} {d:Bool} {S:List UInt8} {e:Ev} {k p fr:Int} {j:Nat} {ok:Bool} (hK:KdR ((split S [32]).drop 3) k p fr j ok) {i:Nat} {c:ByteArray} {n:Int} (hi:i<4) (hc:(((split S [32]).drop 3).drop j)[i]?=some c.data.toList) (hF:FrR b c n false):PeB b d S e false:=by
 refine pe_none fun x r0 r1 hw hv ho b1 b2 b3 b4=>?_
 rw [hw] at hc hK
 obtain⟨_,_,_,_,h5⟩:=hK x _ hv rfl
 rw [h5] at hc
 have e0:((r0 :: r1 :: [86] :: (kdW x ++ labW b d x)).drop 3).drop (kdW x).length=labW b d x:=by simp
 rw [e0] at hc
 unfold labW at hc
 have:i=0∨i=1∨i=2∨i=3:=by omega
 rcases this with rfl | rfl | rfl | rfl
 ·injection hc with hc
  have:=(hF x.i d ho b1.1 b1.2 hc.symm).1
  cases this
 ·injection hc with hc
  have:=(hF x.o d ho b2.1 b2.2 hc.symm).1
  cases this
 ·injection hc with hc
  have:=(hF x.f d ho b3.1 b3.2 hc.symm).1
  cases this
 ·injection hc with hc
  have:=(hF x.t d ho b4.1 b4.2 hc.symm).1
  cases this
theorem pe_all {b:Int} {d:Bool} {S:List UInt8} {k p fr:Int} {j:Nat} {ok:Bool} (hK:KdR ((split S [32]).drop 3) k p fr j ok) {w1 c0 c1 c2 c3:ByteArray} {n0 n1 n2 n3:Int} (h1:(split S [32])[1]?=some w1.data.toList) (e0:(((split S [32]).drop 3).drop j)[0]?=some c0.data.toList) (e1:(((split S [32]).drop 3).drop j)[1]?=some c1.data.toList) (e2:(((split S [32]).drop 3).drop j)[2]?=some c2.data.toList) (e3:(((split S [32]).drop 3).drop j)[3]?=some c3.data.toList)
  (F0:FrR b c0 n0 true) (F1:FrR b c1 n1 true) (F2:FrR b c2 n2 true) (F3:FrR b c3 n3 true):PeB b d S ⟨k,p,fr,reelW w1,n0,n1,n2,n3⟩ true:=by
 intro num x least ho h0 hn hl hx he
 obtain⟨hw,hv,b1,b2,b3,b4,hr⟩:=ev_key ho h0 hn hl hx he
 rw [hw] at h1 e0 e1 e2 e3 hK
 obtain⟨_,hk1,hk2,hk3,h5⟩:=hK x _ hv rfl
 have ee:((t3 num :: reelB x :: [86] :: (kdW x ++ labW b d x)).drop 3).drop j=labW b d x:=by rw [h5];simp
 rw [ee] at e0 e1 e2 e3
 unfold labW at e0 e1 e2 e3
 injection e0 with e0
 injection e1 with e1
 injection e2 with e2
 injection e3 with e3
 injection h1 with h1
 have g0:=(F0 x.i d ho b1.1 b1.2 e0.symm).2
 have g1:=(F1 x.o d ho b2.1 b2.2 e1.symm).2
 have g2:=(F2 x.f d ho b3.1 b3.2 e2.symm).2
 have g3:=(F3 x.t d ho b4.1 b4.2 e3.symm).2
 refine⟨rfl,?_⟩
 have:toBa (reelB x)=w1:=by rw [h1,toBa_of]
 rw [g0,g1,g2,g3,hk1,hk2,hk3,← this,hr]
end Go.Proofs.YtgbiodnfpbhjiaaGreatDoor
