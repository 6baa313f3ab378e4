/-
  Contracts of Gcd, within, Base and Moved of the reference's layer 23.
  Conditions: the source is valid; the numbers are small.
-/
import Derived.Test.YtnginfangeikpaaGreatDoorWalkTm
import Derived.Test.YtnginfangeikpaaGreatDoorKit
namespace Go.Proofs.YtnginfangeikpaaGreatDoor
open Go.RowKit Go.Lib
set_option linter.unusedSimpArgs false
set_option linter.unusedVariables false
set_option maxHeartbeats 1000000 in
theorem rgcd23_any (x y:Int) (w:World) (hx:-9223372036854775807≤x∧x≤9223372036854775807) (hy:0≤y∧y≤9223372036854775807) :
  Calls Tryz.prog 22 #[.int .i64 x,.int .i64 y] w fun e w'=>e=.returned (.int .i64 (gc x y))∧Gr w w':=by
 have hm1:=mg_nonneg x
 have hm2:mg x≤9223372036854775807:=by unfold mg;split <;> omega
 have hX:(x<0→-x=mg x)∧(¬ x<0→x=mg x):=by unfold mg;constructor <;> intro h <;> split <;> omega
 rw [← gc_mg x y]
 generalize mg x=X at *
 replace hX:=Lib.hid hX
 go_enter Tryz.func22,Tryz.ntmps22
 go_upto_if 6 with fail
 go_cut [0] (fun a wx=>a=.int .i64 X∧wx=w)
 case first=>as_aux_lemma=>
  by_cases h:x<0
  ·have q:decide (x<0)=true:=decide_eq_true h
   have e:=Lib.hid (hX.out.1 h)
   go_wp2
   go_meet
   exact⟨by rw [e.out],rfl⟩
  ·have q:decide (x<0)=false:=decide_eq_false h
   have e:=Lib.hid (hX.out.2 h)
   go_wp2
   go_meet
   exact⟨by rw [e.out],rfl⟩
 case rest=>as_aux_lemma=>
  obtain⟨rfl,rfl⟩:=hcut
  go_wp2
  go_loopw [0,1] (fun a b wr=>∃ p q:Int,0≤p∧p≤9223372036854775807∧0≤q∧q≤9223372036854775807∧a=.int .i64 p∧b=.int .i64 q∧Hid (gc p q=gc X y)∧Gr wc wr) (fun _ b _=>(RowKit.intOf b).toNat)
  case atStart=>exact⟨X,y,hm1,hm2,hy.1,hy.2,rfl,rfl,Lib.hid rfl,Gr.refl _⟩
  case round=>
   obtain⟨p,q,hp,hp2,hq,hq2,rfl,rfl,hg,hgr⟩:=hrel
   by_cases h0:q=0
   ·subst h0
    go_wp2
    go_ret
    exact⟨ret_int (by rw [← hg.out,gc_zero _ hp]),hgr⟩
   ·have hb:(q != 0)=true:=by simpa using h0
    have hm1:0≤p.tmod q:=Int.tmod_nonneg q hp
    have hm2:p.tmod q<q:=Int.tmod_lt_of_pos p (by omega)
    have hm3:p.tmod q=p % q:=Int.tmod_eq_emod_of_nonneg hp
    go_wp2
    go_region
    go_wp2
    have hno:=Lib.hid ((gc_step p q hp hq).trans hg.out)
    refine⟨⟨q,p % q,hq,hq2,by omega,by omega,rfl,rfl,hno,hgr.drew⟩,by simp [RowKit.intOf];omega⟩
open Go.RowKit
theorem still_next {P:Program} {ops:Array Oper} {md:Region.Mode} {Q:Exit→Act→World→Prop} {S:Nat→World→Prop} {f j:Nat} {oj:Oper} {listed:Array Bool} {a:Act} {w:World} (hl:Region.ready md ops listed=[j]) (hj:ops[j]?=some oj)
  (h:∀ R:Act→World→Prop,(∀ a' w',(∀ i,¬ waitsFor md ops j i→S i w→S i w')→stillAny P md ops Q S f (listed.setIfInBounds j true) a' w'→R a' w')→wpList P ops (only R) [oj] a w):stillAny P md ops Q S (f+1) listed a w:=
 still_pick [j] hl (by simp) (fun i hi=>by rw [List.mem_singleton.1 hi];exact still_one hj h)
theorem still_both {P:Program} {ops:Array Oper} {md:Region.Mode} {Q:Exit→Act→World→Prop} {S:Nat→World→Prop} {f i j:Nat} {oi oj:Oper} {listed:Array Bool} {a:Act} {w:World} (hl:Region.ready md ops listed=[i,j]) (hi:ops[i]?=some oi) (hj:ops[j]?=some oj)
  (h1:∀ R:Act→World→Prop,(∀ a' w',(∀ t,¬ waitsFor md ops i t→S t w→S t w')→stillAny P md ops Q S f (listed.setIfInBounds i true) a' w'→R a' w')→wpList P ops (only R) [oi] a w)
  (h2:∀ R:Act→World→Prop,(∀ a' w',(∀ t,¬ waitsFor md ops j t→S t w→S t w')→stillAny P md ops Q S f (listed.setIfInBounds j true) a' w'→R a' w')→wpList P ops (only R) [oj] a w):stillAny P md ops Q S (f+1) listed a w:=
 still_pick [i,j] hl (by simp) (fun t ht=>by
  rcases List.mem_cons.1 ht with rfl | ht
  ·exact still_one hi h1
  ·rw [List.mem_singleton.1 ht];exact still_one hj h2)
abbrev zClip:Array Value:=#[.int .i64 0,.int .i64 0,.int .i64 0,.string ⟨#[]⟩,.int .i64 0,.int .i64 0,.int .i64 0,.int .i64 0,.bool false,.int .i64 0,.string ⟨#[]⟩,.int .i64 0,.int .i64 0,.int .i64 0,.int .i64 0,.bool false,.int .i64 0,.int .i64 0,.int .i64 0,.string ⟨#[]⟩,.int .i64 0,.slice none 0 0]
theorem ChR.row {w:World} {m:CM} {g:Nat} {l:Array Value} (h:ChR w m) (hne:m.cv.ownBlock≠some g):ChR (w.setRow g l) m:=Rd.grown (grown_setRow w g l) (.inr (.inl hne)) h
theorem ChR.cell {w:World} {m:CM} {p:Addr} {u:Value} (h:ChR w m) (hne:m.cv.ownBlock≠some p.block):ChR (w.setCell p u) m:=Rd.setCell p u hne h
def PkR (cs:List CM) (i:Nat) (ts:List CM) (R:List Cl):Prop:=
 (i=0∧ts=[]∧pk (cs.map CM.c)=R)∨(∃ (ini:List CM) (m:CM),0<i∧ts=ini ++ [m]∧ini.map CM.c ++ pkGo m.c ((cs.drop i).map CM.c)=R)
theorem PkR.end {cs:List CM} {ts:List CM} {R:List Cl} (h:PkR cs cs.length ts R):ts.map CM.c=R:=by
 rcases h with ⟨h1,rfl,h2⟩ | ⟨ini,m,h1,rfl,h3⟩
 ·rw [List.eq_nil_of_length_eq_zero h1] at h2
  exact h2
 ·rw [List.drop_length] at h3
  rw [← h3]
  simp [pkGo]
theorem PkR.first {cs:List CM} {ts:List CM} {R:List Cl} (hl:0<cs.length) (h:PkR cs 0 ts R) (m:CM) (hm:m.c=cs[0].c):PkR cs 1 (ts ++ [m]) R:=by
 rcases h with ⟨h1,rfl,h2⟩ | ⟨ini,m,h1,_⟩
 ·refine .inr ⟨[],m,by omega,rfl,?_⟩
  rw [← h2,hm]
  cases cs with
  | nil=>simp at hl
  | cons a r=>rfl
 ·omega
theorem PkR.last {cs:List CM} {i:Nat} {ini:List CM} {m:CM} {R:List Cl} (h:PkR cs i (ini ++ [m]) R):ini.map CM.c ++ pkGo m.c ((cs.drop i).map CM.c)=R:=by
 rcases h with ⟨_,h2,_⟩ | ⟨ini',m',h1,h4,h3⟩
 ·simp at h2
 ·obtain⟨e1,e2⟩:=List.append_inj' h4 rfl
  injection e2 with e2
  subst e1 e2
  exact h3
theorem PkR.new {cs:List CM} {i:Nat} {ini:List CM} {m0:CM} {R:List Cl} (hi:i<cs.length) (h:PkR cs i (ini ++ [m0]) R) (hk:cont m0.c cs[i].c=false) (m:CM) (hm:m.c=cs[i].c):PkR cs (i+1) (ini ++ [m0] ++ [m]) R:=by
 have h3:=h.last
 refine .inr ⟨ini ++ [m0],m,by omega,rfl,?_⟩
 rw [List.drop_eq_getElem_cons hi,List.map_cons,pkGo,hk] at h3
 rw [← h3,hm]
 simp
theorem PkR.join {cs:List CM} {i:Nat} {ini:List CM} {m:CM} {R:List Cl} (hi:i<cs.length) (h:PkR cs i (ini ++ [m]) R) (hk:cont m.c cs[i].c=true):PkR cs (i+1) (ini ++ [⟨longer m.c cs[i].c.len,m.cv⟩]) R:=by
 have h3:=h.last
 refine .inr ⟨ini,_,by omega,rfl,?_⟩
 rw [List.drop_eq_getElem_cons hi,List.map_cons,pkGo,hk] at h3
 exact h3
theorem PkR.some {cs:List CM} {i:Nat} {ts:List CM} {R:List Cl} (h0:0<i) (h:PkR cs i ts R):∃ ini m,ts=ini ++ [m]:=by
 rcases h with ⟨h1,_⟩ | ⟨ini,m,_,h,_⟩
 ·omega
 ·exact⟨ini,m,h⟩
def PkV (cs:List CM) (i:Nat) (ts:List CM):Prop:=(∀ m∈ts,VC m.c)∧tot (ts.map CM.c)=tot ((cs.take i).map CM.c)
theorem tot_take {cs:List CM} {i:Nat} (hi:i<cs.length):tot ((cs.take (i+1)).map CM.c)=tot ((cs.take i).map CM.c)+cs[i].c.len:=by
 rw [← List.take_append_getElem hi,List.map_append,tot_append]
 simp [tot]
theorem tot_pre {cs:List CM} (hv:∀ c∈cs,VC c.c) (i:Nat):tot ((cs.take i).map CM.c)≤tot (cs.map CM.c):=by
 have h:tot (cs.map CM.c)=tot ((cs.take i).map CM.c)+tot ((cs.drop i).map CM.c):=by rw [← tot_append,← List.map_append,List.take_append_drop]
 have h2:0≤tot ((cs.drop i).map CM.c):=tot_nonneg fun c hc=>by
  obtain⟨m,hm,rfl⟩:=List.mem_map.1 hc
  exact (hv m (List.mem_of_mem_drop hm)).vl
 omega
theorem PkV.new {cs:List CM} {i:Nat} {ts:List CM} (hi:i<cs.length) (hv:∀ c∈cs,VC c.c) (h:PkV cs i ts) (m:CM) (hm:m.c=cs[i].c):PkV cs (i+1) (ts ++ [m]):=by
 refine⟨fun x hx=>?_,?_⟩
 ·rcases List.mem_append.1 hx with h1 | h1
  ·exact h.1 x h1
  ·rw [List.mem_singleton.1 h1,hm]
   exact hv _ (List.getElem_mem hi)
 ·rw [tot_take hi,List.map_append,tot_append,h.2]
  simp [tot,hm]
theorem PkV.len {cs:List CM} {i:Nat} {ini:List CM} {m:CM} (hi:i<cs.length) (hv:∀ c∈cs,VC c.c) (ht:tot (cs.map CM.c)≤2147483647) (h:PkV cs i (ini ++ [m])):0≤m.c.len∧m.c.len+cs[i].c.len≤2147483647:=by
 have h1:=(h.1 m (by simp)).len
 have h2:=h.2
 rw [List.map_append,tot_append] at h2
 have h3:0≤tot (ini.map CM.c):=tot_nonneg fun c hc=>by
  obtain⟨x,hx,rfl⟩:=List.mem_map.1 hc
  exact (h.1 x (List.mem_append_left _ hx)).vl
 have h4:=tot_pre hv (i+1)
 rw [tot_take hi] at h4
 simp only [List.map_cons,List.map_nil,tot] at h2
 omega
theorem PkV.join {cs:List CM} {i:Nat} {ini:List CM} {m:CM} (hi:i<cs.length) (hv:∀ c∈cs,VC c.c) (ht:tot (cs.map CM.c)≤2147483647) (h:PkV cs i (ini ++ [m])) (hk:cont m.c cs[i].c=true):PkV cs (i+1) (ini ++ [⟨longer m.c cs[i].c.len,m.cv⟩]):=by
 have hl:=h.len hi hv ht
 refine⟨fun x hx=>?_,?_⟩
 ·rcases List.mem_append.1 hx with h1 | h1
  ·exact h.1 x (List.mem_append_left _ h1)
  ·rw [List.mem_singleton.1 h1]
   exact (h.1 m (by simp)).longer (hv _ (List.getElem_mem hi)) hk hl.2
 ·have h2:=h.2
  rw [List.map_append,tot_append] at h2
  rw [tot_take hi,List.map_append,tot_append]
  simp [tot,longer] at h2 ⊢
  omega
end Go.Proofs.YtnginfangeikpaaGreatDoor
