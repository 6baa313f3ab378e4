/-
  Plain arithmetic: the division of two words by one, digit by digit. No program in sight.
  Conditions: none.
-/
import Derived.Test.YtnginfangeikpaaGreatDoorWalkA
import Derived.Lib.BitFns
import Derived.Laws.BitsAllLaws
namespace Go.Proofs.YtnginfangeikpaaGreatDoor
open Go.RowKit
set_option linter.unusedVariables false
theorem div_all (n y s U un0 B:Nat) (hy:0<y) (hn:n * 2 ^ s=U * B+un0) :
  n / y=U / (y * 2 ^ s) * B+(U % (y * 2 ^ s) * B+un0) / (y * 2 ^ s) ∧
  n % y=((U % (y * 2 ^ s) * B+un0) % (y * 2 ^ s)) / 2 ^ s:=by
 have hp:0<2 ^ s:=Nat.two_pow_pos s
 have hd:0<y * 2 ^ s:=Nat.mul_pos hy hp
 have e1:n / y=n * 2 ^ s / (y * 2 ^ s):=(Nat.mul_div_mul_right _ _ hp).symm
 have e2:n % y=(n * 2 ^ s % (y * 2 ^ s)) / 2 ^ s:=by rw [Nat.mul_mod_mul_right,Nat.mul_div_cancel _ hp]
 have hm:=Nat.div_add_mod U (y * 2 ^ s)
 have e3:n * 2 ^ s=(U % (y * 2 ^ s) * B+un0)+(y * 2 ^ s) * (U / (y * 2 ^ s) * B):=by
  rw [hn,← Nat.mul_assoc,Nat.add_right_comm,← Nat.add_mul,Nat.add_comm (U % (y * 2 ^ s)),hm]
 refine⟨?_,?_⟩
 ·rw [e1,e3,Nat.add_mul_div_left _ _ hd,Nat.add_comm]
 ·rw [e2,e3,Nat.add_mul_mod_self_left]
def dgt (u d yv:Int):Int:=(u * 4294967296+d) / yv
def rst (u d yv:Int):Int:=(u * 4294967296+d) % yv
theorem dgt_cont {yv yn1 yn0 u d q r:Int} (hy:yv=yn1 * 4294967296+yn0) (hy0:0<yv) (hu:u<yv) (hd:d<4294967296)
  (hinv:q * yn1+r=u) (hc:4294967296≤q∨4294967296 * r+d<q * yn0):dgt u d yv<q:=by
 have e:q * yv=q * yn1 * 4294967296+q * yn0:=by rw [hy,Int.mul_add,Int.mul_assoc]
 unfold dgt
 apply Int.ediv_lt_of_lt_mul hy0
 rcases hc with hc | hc
 ·have:4294967296 * yv≤q * yv:=Int.mul_le_mul_of_nonneg_right hc (by omega)
  omega
 ·omega
theorem dgt_stop {yv yn1 yn0 u d q r:Int} (hy:yv=yn1 * 4294967296+yn0) (hy0:0<yv)
  (hinv:q * yn1+r=u) (ht:dgt u d yv≤q) (hc:q * yn0≤4294967296 * r+d):q=dgt u d yv:=by
 have e:q * yv=q * yn1 * 4294967296+q * yn0:=by rw [hy,Int.mul_add,Int.mul_assoc]
 have h:q≤dgt u d yv:=by
  unfold dgt
  apply Int.le_ediv_of_mul_le hy0
  omega
 omega
theorem dgt_break {yv yn1 yn0 u d q r:Int} (hy:yv=yn1 * 4294967296+yn0) (hy0:0<yv) (h1:0<yn1) (h0:0≤yn0) (h0':yn0<4294967296) (hu:u<yv) (hd0:0≤d)
  (hq:0≤q) (hr:4294967296≤r) (hinv:q * yn1+r=u) (ht:dgt u d yv≤q):q=dgt u d yv:=by
 have hq:q<4294967296:=by
  have h:q * yn1<4294967296 * yn1:=by omega
  exact Int.lt_of_mul_lt_mul_right h (by omega)
 have h2:q * yn0≤q * 4294967296:=Int.mul_le_mul_of_nonneg_left (by omega) (by omega)
 exact dgt_stop hy hy0 hinv ht (by omega)
theorem dgt_nonneg {u d yv:Int} (hu:0≤u) (hd:0≤d) (hy:0<yv):0≤dgt u d yv:=Int.ediv_nonneg (by omega) (by omega)
theorem rst_nonneg {u d yv:Int} (hy:0<yv):0≤rst u d yv:=Int.emod_nonneg _ (by omega)
theorem rst_lt {u d yv:Int} (hy:0<yv):rst u d yv<yv:=Int.emod_lt_of_pos _ hy
theorem dgt_lt {u d yv:Int} (hu:u<yv) (hd:d<4294967296) (hy:0<yv):dgt u d yv<4294967296:=by
 unfold dgt
 exact Int.ediv_lt_of_lt_mul hy (by omega)
theorem dgt_guess {u d yv yn1 yn0:Int} (hy:yv=yn1 * 4294967296+yn0) (h1:0<yn1) (h0:0≤yn0) (hu0:0≤u) (hd0:0≤d) (hd:d<4294967296):dgt u d yv≤u / yn1:=by
 have hq:=Int.mul_ediv_add_emod u yn1
 have hr:=Int.emod_lt_of_pos u h1
 have hr0:=Int.emod_nonneg u (show yn1≠0 by omega)
 have hq0:0≤u / yn1:=Int.ediv_nonneg hu0 (by omega)
 generalize u / yn1=q at *
 generalize u % yn1=r at *
 unfold dgt
 apply Int.le_of_lt_add_one
 apply Int.ediv_lt_of_lt_mul (by omega)
 have e:(q+1) * yv=(yn1 * q) * 4294967296+q * yn0+yv:=by rw [hy,Int.add_mul,Int.one_mul,Int.mul_add,Int.mul_comm yn1 q,Int.mul_assoc]
 have:0≤q * yn0:=Int.mul_nonneg hq0 h0
 rw [e]
 omega
theorem dgt_rst (u d yv:Int):u * 4294967296+d=dgt u d yv * yv+rst u d yv:=by
 have:=Int.mul_ediv_add_emod (u * 4294967296+d) yv
 unfold dgt rst
 rw [Int.mul_comm] at this
 omega
theorem bitLen_bounds:∀ (f x:Nat),f≤64→x<2 ^ f→0<x→2 ^ Lib.bitLen x≤2 * x∧x<2 ^ Lib.bitLen x
 | 0,x,_,h,h0=>by simp at h;omega
 | f+1,x,hf,h,h0=>by
  have h64:x<2 ^ 64:=Nat.lt_of_lt_of_le h (Nat.pow_le_pow_right (by omega) hf)
  rw [Lib.bitLen_half x (by omega) h64]
  by_cases h1:x / 2=0
  ·have:x=1:=by omega
   subst this
   decide
  ·obtain⟨a,b⟩:=bitLen_bounds f (x / 2) (by omega) (by rw [Nat.pow_succ] at h;omega) (by omega)
   rw [Nat.pow_add]
   omega
theorem shift_of (y:Nat) (h0:0<y) (h:y<18446744073709551616):∃ s:Nat,(64 - (Lib.bitLen ((y:Int).toNat):Int)=(s:Int))∧s≤63∧9223372036854775808≤y * 2 ^ s∧y * 2 ^ s<18446744073709551616∧True:=by
 obtain⟨a,b⟩:=bitLen_bounds 64 y (by omega) h h0
 have hl:=Lib.bitLen_le y 64 (by omega) h
 have hl0:1≤Lib.bitLen y:=by
  rcases Nat.eq_zero_or_pos (Lib.bitLen y) with e | e
  ·rw [e] at b;simp at b;omega
  ·exact e
 refine⟨64 - Lib.bitLen y,by rw [Int.toNat_natCast];omega,by omega,?_,?_,trivial⟩
 ·have e:2 ^ Lib.bitLen y * 2 ^ (64 - Lib.bitLen y)=18446744073709551616:=by rw [← Nat.pow_add,show Lib.bitLen y+(64 - Lib.bitLen y)=64 by omega]
  have:=Nat.mul_le_mul_right (2 ^ (64 - Lib.bitLen y)) a
  rw [e,Nat.mul_assoc] at this
  omega
 ·have e:2 ^ Lib.bitLen y * 2 ^ (64 - Lib.bitLen y)=18446744073709551616:=by rw [← Nat.pow_add,show Lib.bitLen y+(64 - Lib.bitLen y)=64 by omega]
  have:=Nat.mul_lt_mul_of_pos_right b (Nat.two_pow_pos (64 - Lib.bitLen y))
  rw [e] at this
  exact this
theorem shift_words (hi lo y s:Nat) (hs:s≤63) (h2:hi<y) (h4:lo<18446744073709551616) (hy:y * 2 ^ s<18446744073709551616) :
  (hi * 18446744073709551616+lo) * 2 ^ s=(hi * 2 ^ s+lo / 2 ^ (64 - s)) * 18446744073709551616+lo * 2 ^ s % 18446744073709551616 ∧
  hi * 2 ^ s+lo / 2 ^ (64 - s)<y * 2 ^ s∧lo / 2 ^ (64 - s)<2 ^ s∧hi * 2 ^ s ||| lo / 2 ^ (64 - s)=hi * 2 ^ s+lo / 2 ^ (64 - s):=by
 have e64:2 ^ (64 - s) * 2 ^ s=18446744073709551616:=by rw [← Nat.pow_add,show 64 - s+s=64 by omega]
 have e1:lo * 2 ^ s / 18446744073709551616=lo / 2 ^ (64 - s):=by rw [← e64,Nat.mul_div_mul_right _ _ (Nat.two_pow_pos s)]
 have e2:lo / 2 ^ (64 - s)<2 ^ s:=by
  rw [Nat.div_lt_iff_lt_mul (Nat.two_pow_pos _),Nat.mul_comm,e64]
  exact h4
 have e3:(hi+1) * 2 ^ s≤y * 2 ^ s:=Nat.mul_le_mul_right _ h2
 rw [Nat.add_mul,Nat.one_mul] at e3
 refine⟨?_,by omega,e2,nat_join s _ _ (Nat.mul_mod_left _ _) e2⟩
 rw [Nat.add_mul,Nat.add_mul,Nat.mul_right_comm]
 omega
theorem div_words_aux (n y s U d1 d0 B:Nat) (Bi N P:Int) (hB:Bi=(B:Int)) (hN:N=(n:Int)) (hP:P=((2 ^ s:Nat):Int)) (hy:0<y) (hn:n * 2 ^ s=(U * B+d1) * B+d0) :
  ((U:Int) * Bi+(d1:Int)) / ((y * 2 ^ s:Nat):Int) * Bi+(((U:Int) * Bi+(d1:Int)) % ((y * 2 ^ s:Nat):Int) * Bi+(d0:Int)) / ((y * 2 ^ s:Nat):Int)=N / (y:Int) ∧
  ((((U:Int) * Bi+(d1:Int)) % ((y * 2 ^ s:Nat):Int) * Bi+(d0:Int)) % ((y * 2 ^ s:Nat):Int)) / P=N % (y:Int):=by
 subst hB hN hP
 obtain⟨e1,e2⟩:=div_all n y s (U * B+d1) d0 B hy hn
 refine⟨?_,?_⟩
 ·rw [← Int.natCast_ediv n y,e1]
  simp only [Int.natCast_add,Int.natCast_mul,Int.natCast_ediv,Int.natCast_emod]
 ·rw [← Int.natCast_emod n y,e2]
  simp only [Int.natCast_add,Int.natCast_mul,Int.natCast_ediv,Int.natCast_emod]
theorem div_words (hi lo y s U:Nat) (hy:0<y) (hn:(hi * 18446744073709551616+lo) * 2 ^ s=U * 18446744073709551616+lo * 2 ^ s % 18446744073709551616) :
  Hid (dgt U ((lo * 2 ^ s % 18446744073709551616 / 4294967296:Nat):Int) ((y * 2 ^ s:Nat):Int) * 4294967296+dgt (rst U ((lo * 2 ^ s % 18446744073709551616 / 4294967296:Nat):Int) ((y * 2 ^ s:Nat):Int)) ((lo * 2 ^ s % 18446744073709551616 % 4294967296:Nat):Int) ((y * 2 ^ s:Nat):Int)=((hi:Int) * 18446744073709551616+lo) / y) ∧
  Hid (rst (rst U ((lo * 2 ^ s % 18446744073709551616 / 4294967296:Nat):Int) ((y * 2 ^ s:Nat):Int)) ((lo * 2 ^ s % 18446744073709551616 % 4294967296:Nat):Int) ((y * 2 ^ s:Nat):Int) / 2 ^ (s:Int).toNat=((hi:Int) * 18446744073709551616+lo) % y):=by
 generalize hv:lo * 2 ^ s % 18446744073709551616=v at *
 exact div_words_aux (hi * 18446744073709551616+lo) y s U (v / 4294967296) (v % 4294967296) 4294967296 4294967296 _ _ (by omega) (by omega) (by simp) hy (by rw [hn];omega)
theorem mod_words (hi lo y:Int):(hi % y * 18446744073709551616+lo) % y=(hi * 18446744073709551616+lo) % y:=by
 rw [Int.add_emod,Int.mul_emod,Int.emod_emod_of_dvd _ (Int.dvd_refl y),← Int.mul_emod,← Int.add_emod]
set_option linter.unusedSimpArgs false
theorem lz_any (x:Int) (w:World) (h0:0≤x) (h1:x<18446744073709551616) :
  Calls Tryz.prog 165 #[.int .u64 x] w fun e w'=>e=.returned (.int .i64 (64 - (Lib.bitLen x.toNat:Int)))∧w=w':=
 (Tryz.bits_LeadingZeros64 x w h0 (by omega)).mono fun e w' ⟨h,h'⟩=>⟨h,h'.symm⟩
theorem wrap_rest {u d yv t x:Int} (h:u * 4294967296+d=t * yv+x) (h0:0≤x) (h1:x<18446744073709551616) :
  IntKind.u64.wrap (IntKind.u64.wrap (IntKind.u64.wrap (u * 4294967296)+d) - IntKind.u64.wrap (t * yv))=x:=by
 simp only [IntKind.wrap_u64]
 omega
set_option maxHeartbeats 4000000 in
theorem div64_core (hi lo y s yv yn1 yn0 u v v1 v0 t1 x t0 z qq rr:Int) (w:World) (h1:0<hi) (h2:hi<y) (h3:0≤lo) (h4:lo<18446744073709551616) (h5:y<18446744073709551616) (hs0:0≤s) (hs1:s≤63) (hs:Hid (64 - (Lib.bitLen y.toNat:Int)=s))
  (hyv:IntKind.u64.wrap (y * 2 ^ s.toNat)=yv) (hy1:9223372036854775808≤yv) (hy2:yv<18446744073709551616) (hyn1:yv / 4294967296=yn1) (hyn0:bits .and .u64 yv 4294967295=yn0) (hyy:Hid (yv=yn1 * 4294967296+yn0))
  (hn1:2147483648≤yn1) (hn1':yn1<4294967296) (hn0:0≤yn0) (hn0':yn0<4294967296)
  (hu:bits .or .u64 (IntKind.u64.wrap (hi * 2 ^ s.toNat)) (lo / 2 ^ (64 - s).toNat)=u) (hu0:0≤u) (huy:u<yv)
  (hv:IntKind.u64.wrap (lo * 2 ^ s.toNat)=v) (hv0:bits .and .u64 v 4294967295=v0) (hv1:v / 4294967296=v1) (hva:0≤v1) (hvb:v1<4294967296) (hvc:0≤v0) (hvd:v0<4294967296) (hve:0≤v) (hvf:v<18446744073709551616)
  (ht1:Hid (dgt u v1 yv=t1)) (hx:IntKind.u64.wrap (IntKind.u64.wrap (IntKind.u64.wrap (u * 4294967296)+v1) - IntKind.u64.wrap (t1 * yv))=x) (hx0:0≤x) (hxy:x<yv)
  (ht0:Hid (dgt x v0 yv=t0)) (hz:IntKind.u64.wrap (IntKind.u64.wrap (IntKind.u64.wrap (x * 4294967296)+v0) - IntKind.u64.wrap (t0 * yv))=z) (hz0:0≤z) (hzy:z<yv) (ht1a:0≤t1) (ht1b:t1<4294967296) (ht0a:0≤t0) (ht0b:t0<4294967296)
  (hqq:Hid (t1 * 4294967296+t0=qq)) (hrr:Hid (z / 2 ^ s.toNat=rr)) :
  Calls Tryz.prog 152 #[.int .u64 hi,.int .u64 lo,.int .u64 y] w fun e w'=>e=.returned (.tuple #[.int .u64 qq,.int .u64 rr])∧w=w':=by
 have c1:(y == 0)=false:=by simp;omega
 have c2:¬ y≤hi:=by omega
 have c3:(hi == 0)=false:=by simp;omega
 have hqa:0≤u / yn1:=Int.ediv_nonneg hu0 (by omega)
 have hqb:u / yn1≤u:=Int.ediv_le_self _ hu0
 have hqc:0≤u / yn1 * yn1:=Int.mul_nonneg hqa (by omega)
 have hqd:u / yn1 * yn1≤u:=Int.ediv_mul_le _ (by omega)
 have hqe:Hid (dgt u v1 yv≤u / yn1):=dgt_guess hyy.out (by omega) hn0 hu0 hva hvb
 have hqf:u - u / yn1 * yn1<yn1:=by
  have e:=Int.mul_ediv_add_emod u yn1
  have e':=Int.emod_lt_of_pos u (show 0<yn1 by omega)
  rw [Int.mul_comm] at e
  omega
 go_enter Tryz.func152,Tryz.ntmps152
 go_wp2_with (go_at_call 165;refine (lz_any _ _ (by omega) (by omega)).mono ?_;rw [hs.out];rintro e w' ⟨rfl,rfl⟩)
 clear hu hv hv0 hyn0 hyn1 hyv hv1
 go_loop [15,16] (fun a b=>∃ q r:Int,0≤q∧q≤u∧0≤r∧r<4294967296∧Hid (q * yn1+r=u)∧Hid (dgt u v1 yv≤q)∧a=.int .u64 q∧b=.int .u64 r) (fun a _=>(intOf a).toNat)
 case atStart=>exact⟨u / yn1,u - u / yn1 * yn1,hqa,hqb,by omega,by omega,(by omega:u / yn1 * yn1+(u - u / yn1 * yn1)=u),hqe,rfl,rfl⟩
 case round=>
  obtain⟨q,r,hq0,hq1,hr0,hr1,hinv,hle,rfl,rfl⟩:=hrel
  clear hqa hqb hqc hqd hqe hqf
  have hp0:0≤q * yn0:=Int.mul_nonneg hq0 hn0
  have hp1:q<4294967296→q * yn0<18446744073709551616:=fun h=>by
   have:=Int.mul_le_mul (show q≤4294967295 by omega) (show yn0≤4294967295 by omega) hn0 (by omega)
   omega
  rcases (show ((4294967296≤q∧r+yn1<4294967296)∨(q<4294967296∧4294967296 * r+v1<q * yn0∧r+yn1<4294967296)) ∨
    ((4294967296≤q∧4294967296≤r+yn1)∨(q<4294967296∧4294967296 * r+v1<q * yn0∧4294967296≤r+yn1)∨(q<4294967296∧q * yn0≤4294967296 * r+v1)) by omega) with hN | hE
  ·have hgt:=dgt_cont hyy.out (by omega) huy hvb hinv.out (by omega)
   have hq2:1≤q:=by have:=dgt_nonneg hu0 hva (show 0<yv by omega);omega
   have HE:Hid (dgt u v1 yv≤q - 1):=(by omega:dgt u v1 yv≤q - 1)
   have HI:Hid ((q - 1) * yn1+(r+yn1)=u):=(by rw [Int.sub_mul];have:=hinv.out;omega:(q - 1) * yn1+(r+yn1)=u)
   clear hgt
   rcases hN with ⟨hc,hb⟩ | ⟨hc,hd,hb⟩
   all_goals
    try have hp2:=hp1 hc
    clear hp1
    go_wp2
    go_round
    case rel=>exact⟨q - 1,r+yn1,by omega,by omega,by omega,by omega,HI,HE,rfl,rfl⟩
    case measure=>simp [intOf];omega
  ·have hq':Hid (if 4294967296≤q∨4294967296 * r+v1<q * yn0 then q - 1=t1 else q=t1):=by
    show if 4294967296≤q∨4294967296 * r+v1<q * yn0 then q - 1=t1 else q=t1
    split
    ·rename_i hc
     have hgt:=dgt_cont hyy.out (by omega) huy hvb hinv.out hc
     have hge:=dgt_nonneg hu0 hva (show 0<yv by omega)
     rw [← ht1.out]
     exact dgt_break hyy.out (by omega) (by omega) hn0 hn0' huy hva (by omega) (show 4294967296≤r+yn1 by omega) (by rw [Int.sub_mul];have:=hinv.out;omega) (by omega)
    ·rename_i hc
     rw [← ht1.out]
     exact dgt_stop hyy.out (by omega) hinv.out hle.out (by omega)
   have hy0:0≤x / yn1:=Int.ediv_nonneg hx0 (by omega)
   have hyb:x / yn1≤x:=Int.ediv_le_self _ hx0
   have hyc:0≤x / yn1 * yn1:=Int.mul_nonneg hy0 (by omega)
   have hyd:x / yn1 * yn1≤x:=Int.ediv_mul_le _ (by omega)
   have hye:Hid (dgt x v0 yv≤x / yn1):=dgt_guess hyy.out (by omega) hn0 hx0 hvc hvd
   have hyf:x - x / yn1 * yn1<yn1:=by
    have e:=Int.mul_ediv_add_emod x yn1
    have e':=Int.emod_lt_of_pos x (show 0<yn1 by omega)
    rw [Int.mul_comm] at e
    omega
   rcases hE with ⟨hc,hb⟩ | ⟨hc,hd,hb⟩ | ⟨hc,hb⟩
   all_goals
    have hqt:=hq'.out
    first
     | (rw [if_neg (by omega)] at hqt;subst hqt)
     | (rw [if_pos (by omega)] at hqt;have hq2:1≤q:=by omega)
    try have hp2:=hp1 hc
    clear hp1 hq'
    go_wp2
    clear hp0
    try clear hp2
    clear hx hinv hle hq0 hq1 hr0 hr1 hc hb
    try clear hqt
    try clear hq2
    go_loop [18,16] (fun a b=>∃ q r:Int,0≤q∧q≤x∧0≤r∧r<4294967296∧Hid (q * yn1+r=x)∧Hid (dgt x v0 yv≤q)∧a=.int .u64 q∧b=.int .u64 r) (fun a _=>(intOf a).toNat)
    case atStart=>exact⟨x / yn1,x - x / yn1 * yn1,hy0,hyb,by omega,by omega,(by omega:x / yn1 * yn1+(x - x / yn1 * yn1)=x),hye,rfl,rfl⟩
    case round=>
     obtain⟨q,r,hq0,hq1,hr0,hr1,hinv,hle,rfl,rfl⟩:=hrel
     clear hy0 hyb hyc hyd hye hyf
     have hp0:0≤q * yn0:=Int.mul_nonneg hq0 hn0
     have hp1:q<4294967296→q * yn0<18446744073709551616:=fun h=>by
      have:=Int.mul_le_mul (show q≤4294967295 by omega) (show yn0≤4294967295 by omega) hn0 (by omega)
      omega
     rcases (show ((4294967296≤q∧r+yn1<4294967296)∨(q<4294967296∧4294967296 * r+v0<q * yn0∧r+yn1<4294967296)) ∨
       ((4294967296≤q∧4294967296≤r+yn1)∨(q<4294967296∧4294967296 * r+v0<q * yn0∧4294967296≤r+yn1)∨(q<4294967296∧q * yn0≤4294967296 * r+v0)) by omega) with hN | hE
     ·have hgt:=dgt_cont hyy.out (by omega) hxy hvd hinv.out (by omega)
      have hge:=dgt_nonneg hx0 hvc (show 0<yv by omega)
      have hq2:1≤q:=by omega
      have HE:Hid (dgt x v0 yv≤q - 1):=(by omega:dgt x v0 yv≤q - 1)
      have HI:Hid ((q - 1) * yn1+(r+yn1)=x):=(by rw [Int.sub_mul];have:=hinv.out;omega:(q - 1) * yn1+(r+yn1)=x)
      clear hgt hge
      rcases hN with ⟨hc,hb⟩ | ⟨hc,hd,hb⟩
      all_goals
       try have hp2:=hp1 hc
       clear hp1
       go_wp2
       go_round
       case rel=>exact⟨q - 1,r+yn1,by omega,by omega,by omega,by omega,HI,HE,rfl,rfl⟩
       case measure=>simp [intOf];omega
     ·have hq':Hid (if 4294967296≤q∨4294967296 * r+v0<q * yn0 then q - 1=t0 else q=t0):=by
       show if 4294967296≤q∨4294967296 * r+v0<q * yn0 then q - 1=t0 else q=t0
       split
       ·rename_i hc
        have hgt:=dgt_cont hyy.out (by omega) hxy hvd hinv.out hc
        have hge:=dgt_nonneg hx0 hvc (show 0<yv by omega)
        rw [← ht0.out]
        exact dgt_break hyy.out (by omega) (by omega) hn0 hn0' hxy hvc (by omega) (show 4294967296≤r+yn1 by omega) (by rw [Int.sub_mul];have:=hinv.out;omega) (by omega)
       ·rename_i hc
        rw [← ht0.out]
        exact dgt_stop hyy.out (by omega) hinv.out hle.out (by omega)
      rcases hE with ⟨hc,hb⟩ | ⟨hc,hd,hb⟩ | ⟨hc,hb⟩
      all_goals
       have hqt:=hq'.out
       first
        | (rw [if_neg (by omega)] at hqt;subst hqt)
        | (rw [if_pos (by omega)] at hqt;have hq2:1≤q:=by omega)
       try have hp2:=hp1 hc
       clear hp1 hq'
       go_wp2
       go_ret2
       exact⟨by rw [hqq.out,hrr.out];rfl,rfl⟩
theorem div64_any (hi lo y:Int) (w:World) (h1:0≤hi) (h2:hi<y) (h3:0≤lo) (h4:lo<18446744073709551616) (h5:y<18446744073709551616) :
  Calls Tryz.prog 152 #[.int .u64 hi,.int .u64 lo,.int .u64 y] w fun e w'=>e=.returned (.tuple #[.int .u64 ((hi * 18446744073709551616+lo) / y),.int .u64 ((hi * 18446744073709551616+lo) % y)])∧∃ n,w'=w.drewN n:=by
 by_cases h0:hi=0
 ·subst h0
  have c1:(y == 0)=false:=by simp;omega
  have q0:0≤lo / y:=Int.ediv_nonneg h3 (by omega)
  have q1:lo / y≤lo:=Int.ediv_le_self _ h3
  have q2:0≤lo % y:=Int.emod_nonneg _ (by omega)
  have q3:lo % y<y:=Int.emod_lt_of_pos _ (by omega)
  go_enter Tryz.func152,Tryz.ntmps152
  go_wp2
  go_region
  go_wp2
  go_ret2
  exact⟨by simp,1,rfl⟩
 ·obtain⟨hi,rfl⟩:=Int.eq_ofNat_of_zero_le h1
  obtain⟨lo,rfl⟩:=Int.eq_ofNat_of_zero_le h3
  obtain⟨y,rfl⟩:=Int.eq_ofNat_of_zero_le (show 0≤y by omega)
  obtain⟨s,hs,hs1,g1,g2,g3⟩:=shift_of y (by omega) (by omega)
  have gy:((y:Int) * 2 ^ (s:Int).toNat)=((y * 2 ^ s:Nat):Int):=by simp
  have gl:((lo:Int) * 2 ^ (s:Int).toNat)=((lo * 2 ^ s:Nat):Int):=by simp
  have gh:((hi:Int) * 2 ^ (s:Int).toNat)=((hi * 2 ^ s:Nat):Int):=by simp
  have gs:(64 - (s:Int)).toNat=64 - s:=by omega
  have gd:((lo:Int) / 2 ^ (64 - (s:Int)).toNat)=((lo / 2 ^ (64 - s):Nat):Int):=by rw [gs];simp
  obtain⟨k1,k2,k3,k4⟩:=shift_words hi lo y s (by omega) (by omega) (by omega) g2
  have k5:hi * 2 ^ s≤hi * 2 ^ s+lo / 2 ^ (64 - s):=Nat.le_add_right _ _
  generalize hU:hi * 2 ^ s+lo / 2 ^ (64 - s)=U at *
  have ey:IntKind.u64.wrap ((y * 2 ^ s:Nat):Int)=((y * 2 ^ s:Nat):Int):=by rw [IntKind.wrap_u64];omega
  have eu:bits .or .u64 (IntKind.u64.wrap ((hi * 2 ^ s:Nat):Int)) ((lo / 2 ^ (64 - s):Nat):Int)=(U:Int):=by
   rw [IntKind.wrap_u64,show ((hi * 2 ^ s:Nat):Int) % 18446744073709551616=((hi * 2 ^ s:Nat):Int) by omega,u64_or_nat _ _ (by omega) (by omega),k4]
  have hpos:0<((y * 2 ^ s:Nat):Int):=by omega
  have a1:=rst_nonneg (u:=(U:Int)) (d:=((lo * 2 ^ s % 18446744073709551616 / 4294967296:Nat):Int)) hpos
  have a2:=rst_lt (u:=(U:Int)) (d:=((lo * 2 ^ s % 18446744073709551616 / 4294967296:Nat):Int)) hpos
  have a3:=dgt_nonneg (u:=(U:Int)) (d:=((lo * 2 ^ s % 18446744073709551616 / 4294967296:Nat):Int)) (by omega) (by omega) hpos
  have a4:=dgt_lt (u:=(U:Int)) (d:=((lo * 2 ^ s % 18446744073709551616 / 4294967296:Nat):Int)) (yv:=((y * 2 ^ s:Nat):Int)) (by omega) (by omega) hpos
  have b1:=rst_nonneg (u:=rst (U:Int) ((lo * 2 ^ s % 18446744073709551616 / 4294967296:Nat):Int) ((y * 2 ^ s:Nat):Int)) (d:=((lo * 2 ^ s % 18446744073709551616 % 4294967296:Nat):Int)) hpos
  have b2:=rst_lt (u:=rst (U:Int) ((lo * 2 ^ s % 18446744073709551616 / 4294967296:Nat):Int) ((y * 2 ^ s:Nat):Int)) (d:=((lo * 2 ^ s % 18446744073709551616 % 4294967296:Nat):Int)) hpos
  have b3:=dgt_nonneg (u:=rst (U:Int) ((lo * 2 ^ s % 18446744073709551616 / 4294967296:Nat):Int) ((y * 2 ^ s:Nat):Int)) (d:=((lo * 2 ^ s % 18446744073709551616 % 4294967296:Nat):Int)) a1 (by omega) hpos
  have b4:=dgt_lt (d:=((lo * 2 ^ s % 18446744073709551616 % 4294967296:Nat):Int)) a2 (by omega) hpos
  have c1:=dgt_rst (U:Int) ((lo * 2 ^ s % 18446744073709551616 / 4294967296:Nat):Int) ((y * 2 ^ s:Nat):Int)
  have c2:=dgt_rst (rst (U:Int) ((lo * 2 ^ s % 18446744073709551616 / 4294967296:Nat):Int) ((y * 2 ^ s:Nat):Int)) ((lo * 2 ^ s % 18446744073709551616 % 4294967296:Nat):Int) ((y * 2 ^ s:Nat):Int)
  obtain⟨f1,f2⟩:=div_words hi lo y s U (by omega) k1
  refine (div64_core hi lo y s ((y * 2 ^ s:Nat):Int) ((y * 2 ^ s / 4294967296:Nat):Int) ((y * 2 ^ s % 4294967296:Nat):Int) U ((lo * 2 ^ s % 18446744073709551616:Nat):Int)
   ((lo * 2 ^ s % 18446744073709551616 / 4294967296:Nat):Int) ((lo * 2 ^ s % 18446744073709551616 % 4294967296:Nat):Int)
   (dgt U ((lo * 2 ^ s % 18446744073709551616 / 4294967296:Nat):Int) ((y * 2 ^ s:Nat):Int)) (rst U ((lo * 2 ^ s % 18446744073709551616 / 4294967296:Nat):Int) ((y * 2 ^ s:Nat):Int)) _ _ _ _ w
   (by omega) h2 h3 h4 h5 (by omega) (by omega) hs
   (by rw [gy];exact ey) (by omega) (by omega) (by omega) ?_ (by omega:((y * 2 ^ s:Nat):Int)=((y * 2 ^ s / 4294967296:Nat):Int) * 4294967296+((y * 2 ^ s % 4294967296:Nat):Int)) (by omega) (by omega) (by omega) (by omega)
   (by rw [gh,gd];exact eu) (by omega) (by omega) (by rw [gl,IntKind.wrap_u64];omega) ?_ (by omega) (by omega) (by omega) (by omega) (by omega) (by omega) (by omega)
   rfl (wrap_rest c1 a1 (by omega)) a1 a2 rfl (wrap_rest c2 b1 (by omega)) b1 b2 a3 a4 b3 b4 f1 f2).mono fun e w' ⟨h,h'⟩=>⟨h,0,h'.symm⟩
  ·rw [show (4294967295:Int)=((4294967295:Nat):Int) from rfl,u64_and_nat _ _ (by omega) (by omega)]
   exact congrArg Nat.cast (Nat.and_two_pow_sub_one_eq_mod (y * 2 ^ s) 32)
  ·rw [show (4294967295:Int)=((4294967295:Nat):Int) from rfl,u64_and_nat _ _ (by omega) (by omega)]
   exact congrArg Nat.cast (Nat.and_two_pow_sub_one_eq_mod (lo * 2 ^ s % 18446744073709551616) 32)
set_option maxHeartbeats 400000 in
theorem rem64_any (hi lo y:Int) (w:World) (h1:0≤hi) (h2:hi<18446744073709551616) (h3:0≤lo) (h4:lo<18446744073709551616) (h0:0<y) (h5:y<18446744073709551616) :
  Calls Tryz.prog 155 #[.int .u64 hi,.int .u64 lo,.int .u64 y] w fun e w'=>e=.returned (.int .u64 ((hi * 18446744073709551616+lo) % y))∧∃ n,w'=w.drewN n:=by
 have q2:0≤hi % y:=Int.emod_nonneg _ (by omega)
 have q3:hi % y<y:=Int.emod_lt_of_pos _ (by omega)
 go_enter Tryz.func155,Tryz.ntmps155
 go_wp2_with (go_at_call 152;refine (div64_any _ _ _ _ (by omega) (by omega) (by omega) (by omega) (by omega)).mono ?_;rintro e w' ⟨rfl,n,rfl⟩)
 go_ret
 exact⟨ret_int (mod_words hi lo y),_,rfl⟩
end Go.Proofs.YtnginfangeikpaaGreatDoor
