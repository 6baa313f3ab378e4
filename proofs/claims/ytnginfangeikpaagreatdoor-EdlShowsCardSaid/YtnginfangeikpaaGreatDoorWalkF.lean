/-
  Plain arithmetic: sums and quotients of wide integers. No program in sight.
  Conditions: none.
-/
import Derived.Test.YtnginfangeikpaaGreatDoorWalkA
import Derived.Test.YtnginfangeikpaaGreatDoorWalkD
import Derived.Test.YtnginfangeikpaaGreatDoorKit
namespace Go.Proofs.YtnginfangeikpaaGreatDoor
open Go.RowKit
set_option linter.unusedVariables false
theorem plus_words {a b:Int} (h:mg (a+b)=mg a+mg b) (hf:Fit (a+b)) :
  (wH a+wH b+(wL a+wL b) / 18446744073709551616) % 18446744073709551616=wH (a+b)∧(wL a+wL b) % 18446744073709551616=wL (a+b):=by
 have a1:=wHL a
 have b1:=wHL b
 have c1:=wHL (a+b)
 have a2:=wL_nonneg a
 have a3:=wL_lt a
 have b2:=wL_nonneg b
 have b3:=wL_lt b
 have c2:=wL_nonneg (a+b)
 have c3:=wL_lt (a+b)
 have c4:=wH_lt hf
 have c5:=wH_nonneg (a+b)
 omega
theorem minus_words {a b:Int} (h:mg (a+b)=mg a - mg b) (hf:Fit (a+b)) :
  (wH a - wH b - bor (wL a) (wL b)) % 18446744073709551616=wH (a+b)∧(wL a - wL b) % 18446744073709551616=wL (a+b):=by
 have a1:=wHL a
 have b1:=wHL b
 have c1:=wHL (a+b)
 have a2:=wL_nonneg a
 have a3:=wL_lt a
 have b2:=wL_nonneg b
 have b3:=wL_lt b
 have c2:=wL_nonneg (a+b)
 have c3:=wL_lt (a+b)
 have c4:=wH_lt hf
 have c5:=wH_nonneg (a+b)
 unfold bor
 split <;> omega
theorem minus_words' {a b:Int} (h:mg (a+b)=mg b - mg a) (hf:Fit (a+b)) :
  (wH b - wH a - bor (wL b) (wL a)) % 18446744073709551616=wH (a+b)∧(wL b - wL a) % 18446744073709551616=wL (a+b):=by
 have:=minus_words (a:=b) (b:=a) (by rw [Int.add_comm b a];exact h) (by rw [Int.add_comm b a];exact hf)
 rw [Int.add_comm b a] at this
 exact this
theorem mg_add_same {a b:Int} (h:wN a=wN b):mg (a+b)=mg a+mg b:=by
 unfold wN at h
 rw [decide_eq_decide] at h
 unfold mg
 split <;> split <;> split <;> omega
theorem wN_add_same {a b:Int} (h:wN a=wN b):wN (a+b)=wN a:=by
 unfold wN at *
 rw [decide_eq_decide] at *
 omega
theorem mg_add_diff {a b:Int} (h:wN a≠wN b) (hl:mg b≤mg a):mg (a+b)=mg a - mg b:=by
 unfold wN at h
 rw [Ne,decide_eq_decide] at h
 unfold mg at *
 split at hl <;> split at hl <;> split <;> simp_all <;> omega
theorem wN_add_diff {a b:Int} (h:wN a≠wN b) (hl:mg b≤mg a):wN (a+b)=(wN a && !decide (a+b=0)):=by
 unfold wN at *
 rw [Ne,decide_eq_decide] at h
 unfold mg at *
 rw [Bool.eq_iff_iff]
 simp only [Bool.and_eq_true,Bool.not_eq_true',decide_eq_true_eq,decide_eq_false_iff_not]
 split at hl <;> split at hl <;> omega
theorem words_zero (v:Int):(decide (wH v=0) && decide (wL v=0))=decide (v=0):=by
 have a:=wHL v
 have b:=wL_nonneg v
 have c:=wL_lt v
 have d:=wH_nonneg v
 have e:v=0↔mg v=0:=by unfold mg;split <;> omega
 rw [Bool.eq_iff_iff]
 simp only [Bool.and_eq_true,decide_eq_true_eq,e]
 omega
theorem less_words {a b:Int}:(wH a<wH b∨(wH a=wH b∧wL a<wL b))↔mg a<mg b:=by
 have a1:=wHL a
 have b1:=wHL b
 have a2:=wL_nonneg a
 have a3:=wL_lt a
 have b2:=wL_nonneg b
 have b3:=wL_lt b
 omega
theorem neg_div {v d:Int} (hv:v<0) (hd:0<d):(mg v % d=0→v / d=-(mg v / d)∧v % d=0)∧(0<mg v % d→v / d=-(mg v / d) - 1∧v % d=d - mg v % d):=by
 rw [mg_neg hv]
 have h1:=Int.mul_ediv_add_emod (-v) d
 have h2:=Int.emod_nonneg (-v) (show d≠0 by omega)
 have h3:=Int.emod_lt_of_pos (-v) hd
 have h4:=Int.mul_ediv_add_emod v d
 have h5:=Int.emod_nonneg v (show d≠0 by omega)
 have h6:=Int.emod_lt_of_pos v hd
 generalize hq:(-v) / d=q at *
 generalize hr:(-v) % d=r at *
 refine⟨fun h0=>?_,fun h0=>?_⟩
 ·have e:v=d * (-q)+0:=by rw [Int.mul_neg];omega
  refine⟨?_,?_⟩
  ·rw [e,Int.add_zero];exact Int.mul_ediv_cancel_left _ (by omega)
  ·rw [e,Int.add_zero];exact Int.mul_emod_right _ _
 ·have e:v=(d - r)+d * (-q - 1):=by rw [Int.mul_sub,Int.mul_neg,Int.mul_one];omega
  refine⟨?_,?_⟩
  ·rw [e,Int.add_mul_ediv_left _ _ (by omega),Int.ediv_eq_zero_of_lt (by omega) (by omega)];omega
  ·rw [e,Int.add_mul_emod_self_left,Int.emod_eq_of_lt (by omega) (by omega)]
set_option linter.unusedSimpArgs false
theorem wplus_any (a b:Int) (w:World) (ha:Fit6 a) (hb:Fit6 b) :
  Calls Tryz.prog 136 #[.agg #[.bool (wN a),.int .u64 (wH a),.int .u64 (wL a)],.agg #[.bool (wN b),.int .u64 (wH b),.int .u64 (wL b)]] w fun e w'=>
   e=.returned (.agg #[.bool (wN (a+b)),.int .u64 (wH (a+b)),.int .u64 (wL (a+b))])∧Gr w w':=by
 have hf:=ha.plus hb
 by_cases hn:wN a=wN b
 ·obtain⟨e1,e2⟩:=plus_words (mg_add_same hn) hf
  have e3:=wN_add_same hn
  refine (Eq.subst (motive:=fun n=>Calls _ _ #[.agg #[.bool (wN a),_,_],.agg #[.bool n,_,_]] _ _) hn (wplus_same (wH a) (wL a) (wH b) (wL b) (wN a) w (wH_nonneg a) (wH_lt ha.fit) (wL_nonneg a) (wL_lt a) (wH_nonneg b) (wH_lt hb.fit) (wL_nonneg b) (wL_lt b))).mono ?_
  rintro e w' ⟨rfl,hg⟩
  exact⟨by rw [e1,e2,e3],hg⟩
 ·have hn':(wN a == wN b)=false:=by simpa using hn
  have hz:=words_zero (a+b)
  by_cases hl:mg b≤mg a
  ·obtain⟨e1,e2⟩:=minus_words (mg_add_diff hn hl) hf
   have e3:=wN_add_diff hn hl
   have hnl:¬ (wH a<wH b∨(wH a=wH b∧wL a<wL b)):=by rw [less_words];omega
   refine (wplus_ge (wH a) (wL a) (wH b) (wL b) (wN a) (wN b) w hn' (wH_nonneg a) (wH_lt ha.fit) (wL_nonneg a) (wL_lt a) (wH_nonneg b) (wH_lt hb.fit) (wL_nonneg b) (wL_lt b) (by omega) (by omega)).mono ?_
   rintro e w' ⟨rfl,hg⟩
   exact⟨by rw [e1,e2,e3,or_ne_zero _ _ (wH_nonneg _) (wH_lt hf) (wL_nonneg _) (wL_lt _),hz],hg⟩
  ·obtain⟨e1,e2⟩:=minus_words' (mg_add_diff (a:=b) (b:=a) (fun h=>hn h.symm) (by omega) ▸ (by rw [Int.add_comm])) hf
   have e3:=wN_add_diff (a:=b) (b:=a) (fun h=>hn h.symm) (by omega)
   rw [Int.add_comm b a] at e3
   have hnl:wH a<wH b∨(wH a=wH b∧wL a<wL b):=by rw [less_words];omega
   refine (wplus_lt (wH a) (wL a) (wH b) (wL b) (wN a) (wN b) w hn' (wH_nonneg a) (wH_lt ha.fit) (wL_nonneg a) (wL_lt a) (wH_nonneg b) (wH_lt hb.fit) (wL_nonneg b) (wL_lt b) hnl).mono ?_
   rintro e w' ⟨rfl,hg⟩
   exact⟨by rw [e1,e2,e3,or_ne_zero _ _ (wH_nonneg _) (wH_lt hf) (wL_nonneg _) (wL_lt _),hz],hg⟩
theorem divw_any (v d q r:Int) (w:World) (hf:Fit v) (h1:wH v<d) (h2:d<18446744073709551616) (hq:Hid (mg v / d=q)) (hr:Hid (mg v % d=r)) :
  Calls Tryz.prog 152 #[.int .u64 (wH v),.int .u64 (wL v),.int .u64 d] w fun e w'=>e=.returned (.tuple #[.int .u64 q,.int .u64 r])∧∃ n,w'=w.drewN n:=by
 refine (div64_any _ _ d w (wH_nonneg v) h1 (wL_nonneg v) (wL_lt v) h2).mono ?_
 rintro e w' ⟨rfl,hw⟩
 exact⟨by rw [wHL,hq.out,hr.out],hw⟩
set_option maxHeartbeats 1000000 in
theorem divide_any (v d:Int) (w:World) (hf:Fit v) (hd:1≤d) (hd2:d<18446744073709551616) (P:Bool) (hP:Hid (decide (-9223372036854775808≤v / d∧v / d≤9223372036854775807)=P)) :
  Calls Tryz.prog 134 #[.agg #[.bool (wN v),.int .u64 (wH v),.int .u64 (wL v)],.int .u64 d] w fun e w'=>
   e=.returned (.tuple #[.int .i64 (if P then v / d else 0),.int .u64 (if P then v % d else 0),.bool P])∧Gr w w':=by
 have b1:=wH_nonneg v
 have b2:=wL_nonneg v
 have b3:=wL_lt v
 have b4:=wH_lt hf
 have hA:=wHL v
 have hq0:0≤mg v / d:=Int.ediv_nonneg (mg_nonneg v) (by omega)
 have hr0:0≤mg v % d:=Int.emod_nonneg _ (by omega)
 have hr1:mg v % d<d:=Int.emod_lt_of_pos _ (by omega)
 have hqA:=Int.mul_ediv_add_emod (mg v) d
 by_cases hb:d≤wH v
 ·have hbig:18446744073709551616≤mg v / d:=by
   apply Int.le_ediv_of_mul_le (by omega)
   have:18446744073709551616 * d≤18446744073709551616 * wH v:=by omega
   omega
  have hPf:P=false:=by
   rw [← hP.out,decide_eq_false_iff_not]
   by_cases hv:v<0
   ·have:=neg_div hv (show 0<d by omega)
    omega
   ·rw [mg_pos (by omega)] at hbig
    omega
  subst hPf
  clear hbig hP hA hqA
  go_enter Tryz.func134,Tryz.ntmps134
  go_wp2
  simp [bodyPost,results,Tryz.results134,go_sem]
  exact (by repeat (first | refine Gr.setCell ?_ (by first | omega | (simp;done) | (simp;omega)) _ | refine Gr.alloc ?_ _ | refine Gr.drew ?_ | refine Gr.drewN ?_ _ | with_reducible assumption | with_reducible exact Gr.refl _ | refine Gr.trans ?_ (by with_reducible assumption)))
 ·have hdv:∀ w,Calls Tryz.prog 152 #[.int .u64 (wH v),.int .u64 (wL v),.int .u64 d] w fun e w'=>e=.returned (.tuple #[.int .u64 (mg v / d),.int .u64 (mg v % d)])∧∃ n,w'=w.drewN n:=
   fun w=>divw_any v d _ _ w hf (by omega) hd2 rfl rfl
  have HD:=Lib.hid hdv
  clear hdv
  clear hqA
  by_cases hv:v<0
  ·have hwn:wN v=true:=decide_eq_true hv
   obtain⟨n1,n2⟩:=neg_div hv (show 0<d by omega)
   generalize mg v / d=q at *
   generalize mg v % d=r at *
   have hql:q<18446744073709551616∨18446744073709551616≤q:=by omega
   rcases (show (9223372036854775808<q)∨(q=9223372036854775808∧0<r)∨(q=9223372036854775808∧r=0)∨(q<9223372036854775808∧0<r)∨(q<9223372036854775808∧r=0) by omega) with c | ⟨c,c'⟩ | ⟨c,c'⟩ | ⟨c,c'⟩ | ⟨c,c'⟩
   ·have hPf:P=false:=by rw [← hP.out,decide_eq_false_iff_not];omega
    subst hPf
    clear hP n1 n2 hql hA
    go_enter Tryz.func134,Tryz.ntmps134
    rw [hwn]
    go_wp2_with (go_at_call 152;refine (HD.out _).mono ?_;rintro e w' ⟨rfl,n,rfl⟩)
    simp [bodyPost,results,Tryz.results134,go_sem]
    exact (by repeat (first | refine Gr.setCell ?_ (by first | omega | (simp;done) | (simp;omega)) _ | refine Gr.alloc ?_ _ | refine Gr.drew ?_ | refine Gr.drewN ?_ _ | with_reducible assumption | with_reducible exact Gr.refl _ | refine Gr.trans ?_ (by with_reducible assumption)))
   ·have hPf:P=false:=by rw [← hP.out,decide_eq_false_iff_not];omega
    have hc:(q == 9223372036854775808)=true:=by simpa using c
    subst hPf
    clear hP n1 n2 hql hA
    go_enter Tryz.func134,Tryz.ntmps134
    rw [hwn]
    go_wp2_with (go_at_call 152;refine (HD.out _).mono ?_;rintro e w' ⟨rfl,n,rfl⟩)
    simp [bodyPost,results,Tryz.results134,go_sem]
    exact (by repeat (first | refine Gr.setCell ?_ (by first | omega | (simp;done) | (simp;omega)) _ | refine Gr.alloc ?_ _ | refine Gr.drew ?_ | refine Gr.drewN ?_ _ | with_reducible assumption | with_reducible exact Gr.refl _ | refine Gr.trans ?_ (by with_reducible assumption)))
   ·have hPf:P=true:=by rw [← hP.out,decide_eq_true_iff];omega
    have hc:(q == 9223372036854775808)=true:=by simpa using c
    obtain⟨m1,m2⟩:=n1 c'
    subst hPf
    rw [m1,m2]
    have c0:r≤0:=by omega
    have c1:q≤9223372036854775808:=by omega
    clear hP n1 n2 hql hA m1 m2 c c'
    go_enter Tryz.func134,Tryz.ntmps134
    rw [hwn]
    go_wp2_with (go_at_call 152;refine (HD.out _).mono ?_;rintro e w' ⟨rfl,n,rfl⟩)
    simp [bodyPost,results,Tryz.results134,go_sem]
    have hq:=eq_of_beq hc
    refine⟨?_,(by repeat (first | refine Gr.setCell ?_ (by first | omega | (simp;done) | (simp;omega)) _ | refine Gr.alloc ?_ _ | refine Gr.drew ?_ | refine Gr.drewN ?_ _ | with_reducible assumption | with_reducible exact Gr.refl _ | refine Gr.trans ?_ (by with_reducible assumption)))⟩
    try refine⟨?_,?_⟩
    all_goals (try simp only [IntKind.wrap_u64,IntKind.wrap_i64])
    all_goals (try unfold wrap64)
    all_goals omega
   ·have hPf:P=true:=by rw [← hP.out,decide_eq_true_iff];omega
    have hc:(q == 9223372036854775808)=false:=by simp;omega
    obtain⟨m1,m2⟩:=n2 c'
    subst hPf
    rw [m1,m2]
    clear hP n1 n2 hql hA m1 m2
    go_enter Tryz.func134,Tryz.ntmps134
    rw [hwn]
    go_wp2_with (go_at_call 152;refine (HD.out _).mono ?_;rintro e w' ⟨rfl,n,rfl⟩)
    simp [bodyPost,results,Tryz.results134,go_sem]
    refine⟨?_,(by repeat (first | refine Gr.setCell ?_ (by first | omega | (simp;done) | (simp;omega)) _ | refine Gr.alloc ?_ _ | refine Gr.drew ?_ | refine Gr.drewN ?_ _ | with_reducible assumption | with_reducible exact Gr.refl _ | refine Gr.trans ?_ (by with_reducible assumption)))⟩
    try refine⟨?_,?_⟩
    all_goals (try simp only [IntKind.wrap_u64,IntKind.wrap_i64])
    all_goals (try unfold wrap64)
    all_goals omega
   ·have hPf:P=true:=by rw [← hP.out,decide_eq_true_iff];omega
    have hc:(q == 9223372036854775808)=false:=by simp;omega
    obtain⟨m1,m2⟩:=n1 c'
    subst hPf
    rw [m1,m2]
    have c0:r≤0:=by omega
    clear hP n1 n2 hql hA m1 m2 c'
    go_enter Tryz.func134,Tryz.ntmps134
    rw [hwn]
    go_wp2_with (go_at_call 152;refine (HD.out _).mono ?_;rintro e w' ⟨rfl,n,rfl⟩)
    simp [bodyPost,results,Tryz.results134,go_sem]
    refine⟨?_,(by repeat (first | refine Gr.setCell ?_ (by first | omega | (simp;done) | (simp;omega)) _ | refine Gr.alloc ?_ _ | refine Gr.drew ?_ | refine Gr.drewN ?_ _ | with_reducible assumption | with_reducible exact Gr.refl _ | refine Gr.trans ?_ (by with_reducible assumption)))⟩
    try refine⟨?_,?_⟩
    all_goals (try simp only [IntKind.wrap_u64,IntKind.wrap_i64])
    all_goals (try unfold wrap64)
    all_goals omega
  ·have hwn:wN v=false:=decide_eq_false hv
   rw [mg_pos (by omega)] at *
   generalize hq:v / d=q at *
   generalize hr:v % d=r at *
   by_cases c:9223372036854775807<q
   ·have hPf:P=false:=by rw [← hP.out,decide_eq_false_iff_not];omega
    subst hPf
    clear hP hq hr hA
    go_enter Tryz.func134,Tryz.ntmps134
    rw [hwn]
    go_wp2_with (go_at_call 152;refine (HD.out _).mono ?_;rintro e w' ⟨rfl,n,rfl⟩)
    simp [bodyPost,results,Tryz.results134,go_sem]
    exact (by repeat (first | refine Gr.setCell ?_ (by first | omega | (simp;done) | (simp;omega)) _ | refine Gr.alloc ?_ _ | refine Gr.drew ?_ | refine Gr.drewN ?_ _ | with_reducible assumption | with_reducible exact Gr.refl _ | refine Gr.trans ?_ (by with_reducible assumption)))
   ·have hPf:P=true:=by rw [← hP.out,decide_eq_true_iff];omega
    subst hPf
    clear hP hq hr hA
    go_enter Tryz.func134,Tryz.ntmps134
    rw [hwn]
    go_wp2_with (go_at_call 152;refine (HD.out _).mono ?_;rintro e w' ⟨rfl,n,rfl⟩)
    simp [bodyPost,results,Tryz.results134,go_sem]
    exact (by repeat (first | refine Gr.setCell ?_ (by first | omega | (simp;done) | (simp;omega)) _ | refine Gr.alloc ?_ _ | refine Gr.drew ?_ | refine Gr.drewN ?_ _ | with_reducible assumption | with_reducible exact Gr.refl _ | refine Gr.trans ?_ (by with_reducible assumption)))
set_option maxHeartbeats 400000 in
theorem modulo_any (v d:Int) (w:World) (hf:Fit v) (hd:1≤d) (hd2:d<18446744073709551616) :
  Calls Tryz.prog 137 #[.agg #[.bool (wN v),.int .u64 (wH v),.int .u64 (wL v)],.int .u64 d] w fun e w'=>e=.returned (.int .u64 (mg v % d))∧Gr w w':=by
 have b1:=wH_nonneg v
 have b2:=wL_nonneg v
 have b3:=wL_lt v
 have b4:=wH_lt hf
 go_enter Tryz.func137,Tryz.ntmps137
 go_wp2_with (go_at_call 155;refine (rem64_any _ _ d _ b1 b4 b2 b3 (by omega) hd2).mono ?_;rintro e w' ⟨rfl,n,rfl⟩)
 go_ret
 exact⟨ret_int (by rw [wHL]),(by repeat (first | refine Gr.setCell ?_ (by first | omega | (simp;done) | (simp;omega)) _ | refine Gr.alloc ?_ _ | refine Gr.drew ?_ | refine Gr.drewN ?_ _ | with_reducible assumption | with_reducible exact Gr.refl _ | refine Gr.trans ?_ (by with_reducible assumption)))⟩
def vB (n d:Int):Bool:=decide (1≤d∧-9223372036854775808<n∧gc n d=1)
theorem vB_true {n d:Int} (h1:1≤d) (h2:-9223372036854775808<n) (h3:gc n d=1):vB n d=true:=decide_eq_true ⟨h1,h2,h3⟩
theorem vB_den {n d:Int} (h:¬ 1≤d):vB n d=false:=decide_eq_false fun x=>h x.1
theorem vB_num {n d:Int} (h:¬ -9223372036854775808<n):vB n d=false:=decide_eq_false fun x=>h x.2.1
theorem vB_gc {n d:Int} (h:¬ gc n d=1):vB n d=false:=decide_eq_false fun x=>h x.2.2
theorem vB_inv {n d:Int} (h:vB n d=true):1≤d∧-9223372036854775808<n∧gc n d=1:=of_decide_eq_true h
def rF (n d:Int):Bool:=decide (mg n / gc n d≤9223372036854775807∧d / gc n d≤9223372036854775807)
def rN (n d:Int):Int:=if rF n d then n / gc n d else 0
def rD (n d:Int):Int:=if rF n d then d / gc n d else 0
def rE (n d:Int):Int:=if rF n d then 0 else 2
def oN (n d:Int):Int:=if d=0 then 0 else if d<0 then rN (-n) (-d) else rN n d
def oD (n d:Int):Int:=if d=0 then 0 else if d<0 then rD (-n) (-d) else rD n d
def oE (n d:Int):Int:=if d=0 then 1 else if d<0 then rE (-n) (-d) else rE n d
theorem mg_div {n g:Int} (hg:g ∣ n):mg n / g=mg (n / g)∨g<0:=by
 rcases Int.lt_or_le g 0 with h | h
 ·exact .inr h
 ·left
  obtain⟨k,rfl⟩:=hg
  rcases Int.lt_or_eq_of_le h with h0 | h0
  ·rw [Int.mul_ediv_cancel_left _ (by omega)]
   by_cases hk:k<0
   ·rw [mg_neg hk,mg_neg (Int.mul_neg_of_pos_of_neg h0 hk),← Int.mul_neg,Int.mul_ediv_cancel_left _ (by omega)]
   ·rw [mg_pos (show 0≤k by omega),mg_pos (Int.mul_nonneg h (show 0≤k by omega)),Int.mul_ediv_cancel_left _ (by omega)]
  ·rw [← h0];simp [mg]
theorem mg_quot (n d:Int):mg n / gc n d=mg (n / gc n d):=by
 rcases mg_div (gc_dvd_left n d) with h | h
 ·exact h
 ·have:=gc_nonneg n d;omega
def I64 (x:Int):Prop:=-9223372036854775808≤x∧x≤9223372036854775807
set_option maxHeartbeats 1000000 in
theorem valid_any (n d:Int) (w:World) (hn:I64 n) (hd:I64 d) :
  Calls Tryz.prog 119 #[.agg #[.int .i64 n,.int .i64 d]] w fun e w'=>e=.returned (.bool (vB n d))∧Gr w w':=by
 obtain⟨n1,n2⟩:=hn
 obtain⟨d1,d2⟩:=hd
 by_cases c1:1≤d
 ·by_cases c2:-9223372036854775808<n
  ·have c2':-9223372036854775807≤n:=by omega
   have b1:=mg_nonneg n
   have b2:=mg_lt n n1 n2
   by_cases c3:gc n d=1
   all_goals
    first | rw [vB_true c1 c2 c3] | rw [vB_gc c3]
    first
     | have H:(gc (mg n) d == 1)=true:=by rw [gc_mg];simpa using c3
     | have H:(gc (mg n) d == 1)=false:=by rw [gc_mg];simpa using c3
    clear c3
    go_enter Tryz.func119,Tryz.ntmps119
    go_wp2
    go_quiet ((first
     | (go_at_call 104;exact quiet_left (magnitude_any n _ (by omega) (by omega)))
     | (go_at_call 105;exact Calls.quiet_of (gcd_any _ _ _ (by omega) (by omega) (by omega) (by omega)))))
    go_wp2
    go_ret
    exact⟨ret_bool rfl,(by repeat (first | refine Gr.setCell ?_ (by first | omega | (simp;done) | (simp;omega)) _ | refine Gr.alloc ?_ _ | refine Gr.drew ?_ | refine Gr.drewN ?_ _ | with_reducible assumption | with_reducible exact Gr.refl _ | refine Gr.trans ?_ (by with_reducible assumption)))⟩
  ·rw [vB_num c2]
   have hd:decide (-9223372036854775808<n)=false:=decide_eq_false c2
   have hd':decide (-9223372036854775807≤n)=false:=decide_eq_false (by omega)
   clear c2
   go_enter Tryz.func119,Tryz.ntmps119
   go_wp2
   go_quiet (fail)
   go_wp2
   go_ret
   exact⟨ret_bool rfl,(by repeat (first | refine Gr.setCell ?_ (by first | omega | (simp;done) | (simp;omega)) _ | refine Gr.alloc ?_ _ | refine Gr.drew ?_ | refine Gr.drewN ?_ _ | with_reducible assumption | with_reducible exact Gr.refl _ | refine Gr.trans ?_ (by with_reducible assumption)))⟩
 ·rw [vB_den c1]
  have hd:decide (1≤d)=false:=decide_eq_false c1
  clear c1
  go_enter Tryz.func119,Tryz.ntmps119
  go_wp2
  go_quiet (fail)
  go_wp2
  go_ret
  exact⟨ret_bool rfl,(by repeat (first | refine Gr.setCell ?_ (by first | omega | (simp;done) | (simp;omega)) _ | refine Gr.alloc ?_ _ | refine Gr.drew ?_ | refine Gr.drewN ?_ _ | with_reducible assumption | with_reducible exact Gr.refl _ | refine Gr.trans ?_ (by with_reducible assumption)))⟩
theorem gc_neg_neg (n d:Int):gc (-n) (-d)=gc n d:=by unfold gc;simp
theorem mg_opp (n:Int):mg (-n)=mg n:=by unfold mg;split <;> split <;> omega
theorem quot_neg {n d:Int} (h:n<0):n / gc n d=-(mg n / gc n d):=by
 rw [mg_neg h]
 obtain⟨k,hk⟩:=gc_dvd_left n d
 generalize gc n d=g at *
 subst hk
 by_cases hg:g=0
 ·subst hg;simp at h
 ·rw [← Int.mul_neg,Int.mul_ediv_cancel_left _ hg,Int.mul_ediv_cancel_left _ hg];omega
theorem of_facts {n d g:Int} (h:d≠0) (hg:gc (mg n) (mg d)=g) :
  (mg n / g≤9223372036854775807→mg d / g≤9223372036854775807→(((n<0)↔(d<0))→oN n d=mg n / g)∧(¬ ((n<0)↔(d<0))→oN n d=-(mg n / g))∧oD n d=mg d / g∧oE n d=0) ∧
  (¬ (mg n / g≤9223372036854775807∧mg d / g≤9223372036854775807)→oN n d=0∧oD n d=0∧oE n d=2):=by
 have hg':gc n d=g:=by rw [← hg,gc_mg,gc_mg_right]
 unfold oN oD oE
 rw [if_neg h,if_neg h,if_neg h]
 by_cases hd:d<0
 ·rw [if_pos hd,if_pos hd,if_pos hd]
  have e:rF (-n) (-d)=decide (mg n / g≤9223372036854775807∧mg d / g≤9223372036854775807):=by
   unfold rF;rw [gc_neg_neg,hg',mg_opp,mg_neg hd]
  unfold rN rD rE
  rw [e,gc_neg_neg,hg',mg_neg hd]
  refine⟨fun a b=>?_,fun a=>?_⟩
  ·rw [if_pos (by simp;exact⟨a,b⟩),if_pos (by simp;exact⟨a,b⟩),if_pos (by simp;exact⟨a,b⟩)]
   refine⟨fun c=>?_,fun c=>?_,rfl,rfl⟩
   ·rw [mg_neg (c.2 hd)]
   ·have hn:¬ n<0:=fun x=>c ⟨fun _=>hd,fun _=>x⟩
    rw [mg_pos (by omega)]
    rcases Int.lt_or_eq_of_le (show 0≤n by omega) with hp | hp
    ·have:=quot_neg (n:=-n) (d:=d) (by omega)
     rw [show gc (-n) d=g by rw [← hg',← gc_mg (-n),mg_opp,gc_mg],mg_opp,mg_pos (show 0≤n by omega)] at this
     exact this
    ·rw [← hp];simp
  ·rw [if_neg (by simpa using a),if_neg (by simpa using a),if_neg (by simpa using a)]
   exact⟨rfl,rfl,rfl⟩
 ·rw [if_neg hd,if_neg hd,if_neg hd]
  have e:rF n d=decide (mg n / g≤9223372036854775807∧mg d / g≤9223372036854775807):=by
   unfold rF;rw [hg',mg_pos (show 0≤d by omega)]
  unfold rN rD rE
  rw [e,hg',mg_pos (show 0≤d by omega)]
  refine⟨fun a b=>?_,fun a=>?_⟩
  ·rw [if_pos (by simp;exact⟨a,b⟩),if_pos (by simp;exact⟨a,b⟩),if_pos (by simp;exact⟨a,b⟩)]
   refine⟨fun c=>?_,fun c=>?_,rfl,rfl⟩
   ·rw [mg_pos (show 0≤n by omega)]
   ·have:=quot_neg (n:=n) (d:=d) (by omega)
    rw [hg'] at this
    exact this
  ·rw [if_neg (by simpa using a),if_neg (by simpa using a),if_neg (by simpa using a)]
   exact⟨rfl,rfl,rfl⟩
set_option maxHeartbeats 1000000 in
theorem of_any (n d:Int) (w:World) (hn:I64 n) (hd:I64 d) :
  Calls Tryz.prog 74 #[.int .i64 n,.int .i64 d] w fun e w'=>e=.returned (.tuple #[.agg #[.int .i64 (oN n d),.int .i64 (oD n d)],.int .i64 (oE n d)])∧Gr w w':=by
 obtain⟨n1,n2⟩:=hn
 obtain⟨d1,d2⟩:=hd
 by_cases c0:d=0
 ·subst c0
  go_enter Tryz.func74,Tryz.ntmps74
  go_wp2
  simp [bodyPost,results,Tryz.results74,go_sem]
  exact⟨by simp [oN,oD,oE],(by repeat (first | refine Gr.setCell ?_ (by first | omega | (simp;done) | (simp;omega)) _ | refine Gr.alloc ?_ _ | refine Gr.drew ?_ | refine Gr.drewN ?_ _ | with_reducible assumption | with_reducible exact Gr.refl _ | refine Gr.trans ?_ (by with_reducible assumption)))⟩
 ·have c1:(d == 0)=false:=by simpa using c0
  have b1:=mg_nonneg n
  have b2:=mg_lt n n1 n2
  have b3:=mg_nonneg d
  have b4:=mg_lt d d1 d2
  have hmd:0<mg d:=by unfold mg;split <;> omega
  obtain⟨g,hg⟩:∃ g,gc (mg n) (mg d)=g:=⟨_,rfl⟩
  have hg0:0<g:=by rw [← hg];exact gc_pos_right _ _ hmd
  have hgl:g≤mg d:=by rw [← hg];exact gc_le_right _ _ hmd
  obtain⟨f1,f2⟩:=of_facts (n:=n) c0 hg
  have HG:=Lib.hid (fun w=>hg ▸ gcd_any (mg n) (mg d) w (by omega) (by omega) (by omega) (by omega))
  have p1:0≤mg n / g:=Int.ediv_nonneg b1 (by omega)
  have p2:mg n / g≤mg n:=Int.ediv_le_self _ b1
  have p3:0≤mg d / g:=Int.ediv_nonneg b3 (by omega)
  have p4:mg d / g≤mg d:=Int.ediv_le_self _ b3
  clear hg
  have HN:Hid (oN n d=if mg n / g≤9223372036854775807∧mg d / g≤9223372036854775807 then (if (n<0)↔(d<0) then mg n / g else -(mg n / g)) else 0):=by
   show oN n d=_
   split
   ·rename_i h
    split
    ·rename_i hs;exact (f1 h.1 h.2).1 hs
    ·rename_i hs;exact (f1 h.1 h.2).2.1 hs
   ·rename_i h;exact (f2 h).1
  have HD:Hid (oD n d=if mg n / g≤9223372036854775807∧mg d / g≤9223372036854775807 then mg d / g else 0):=by
   show oD n d=_
   split
   ·rename_i h;exact (f1 h.1 h.2).2.2.1
   ·rename_i h;exact (f2 h).2.1
  have HE:Hid (oE n d=if mg n / g≤9223372036854775807∧mg d / g≤9223372036854775807 then 0 else 2):=by
   show oE n d=_
   split
   ·rename_i h;exact (f1 h.1 h.2).2.2.2
   ·rename_i h;exact (f2 h).2.2
  clear f1 f2
  by_cases h1:mg n / g≤9223372036854775807
  ·by_cases h2:mg d / g≤9223372036854775807
   ·by_cases s1:n<0
    all_goals by_cases s2:d<0
    all_goals
     first | have q1:decide (n<0)=true:=decide_eq_true s1 | have q1:decide (n<0)=false:=decide_eq_false s1
     first | have q2:decide (d<0)=true:=decide_eq_true s2 | have q2:decide (d<0)=false:=decide_eq_false s2
     rw [HN.out,HD.out,HE.out]
     simp only [h1,h2,s1,s2,and_self,if_true,iff_self,if_pos trivial,iff_false,iff_true,not_true,not_false_iff,if_false,true_iff,false_iff]
     go_enter Tryz.func74,Tryz.ntmps74
     go_wp2_with (first
      | (go_at_call 104;refine (magnitude_any _ _ (by omega) (by omega)).mono ?_;rintro e w' ⟨rfl,rfl⟩)
      | (go_at_call 105;refine (HG.out _).mono ?_;rintro e w' ⟨rfl,k,rfl⟩))
     go_region
     go_wp2
     all_goals first
      | (exfalso;omega)
      | (exfalso;rename_i hz;first | (rw [q1,q2] at hz;exact absurd hz (by decide)) | (rw [q1] at hz;exact absurd hz (by decide)) | (rw [q2] at hz;exact absurd hz (by decide)))
      | (simp [bodyPost,results,Tryz.results74,go_sem];exact (by repeat (first | refine Gr.setCell ?_ (by first | omega | (simp;done) | (simp;omega)) _ | refine Gr.alloc ?_ _ | refine Gr.drew ?_ | refine Gr.drewN ?_ _ | with_reducible assumption | with_reducible exact Gr.refl _ | refine Gr.trans ?_ (by with_reducible assumption))))
   ·rw [HN.out,HD.out,HE.out]
    simp only [h1,h2,and_false,if_false]
    go_enter Tryz.func74,Tryz.ntmps74
    go_wp2_with (first
     | (go_at_call 104;refine (magnitude_any _ _ (by omega) (by omega)).mono ?_;rintro e w' ⟨rfl,rfl⟩)
     | (go_at_call 105;refine (HG.out _).mono ?_;rintro e w' ⟨rfl,k,rfl⟩))
    go_region
    go_wp2
    all_goals first
     | (exfalso;omega)
     | (simp [bodyPost,results,Tryz.results74,go_sem];exact (by repeat (first | refine Gr.setCell ?_ (by first | omega | (simp;done) | (simp;omega)) _ | refine Gr.alloc ?_ _ | refine Gr.drew ?_ | refine Gr.drewN ?_ _ | with_reducible assumption | with_reducible exact Gr.refl _ | refine Gr.trans ?_ (by with_reducible assumption))))
  ·rw [HN.out,HD.out,HE.out]
   simp only [h1,false_and,if_false]
   go_enter Tryz.func74,Tryz.ntmps74
   go_wp2_with (first
    | (go_at_call 104;refine (magnitude_any _ _ (by omega) (by omega)).mono ?_;rintro e w' ⟨rfl,rfl⟩)
    | (go_at_call 105;refine (HG.out _).mono ?_;rintro e w' ⟨rfl,k,rfl⟩))
   go_region
   go_wp2
   all_goals first
    | (exfalso;omega)
    | (simp [bodyPost,results,Tryz.results74,go_sem];exact (by repeat (first | refine Gr.setCell ?_ (by first | omega | (simp;done) | (simp;omega)) _ | refine Gr.alloc ?_ _ | refine Gr.drew ?_ | refine Gr.drewN ?_ _ | with_reducible assumption | with_reducible exact Gr.refl _ | refine Gr.trans ?_ (by with_reducible assumption))))
end Go.Proofs.YtnginfangeikpaaGreatDoor
