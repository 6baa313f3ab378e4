/-
  Contracts of the methods of edl's writer: text, three, code.
  Conditions: what is written takes at most 2^47 bytes; the table of powers is laid.
-/
import Derived.Test.YtnginfangeikpaaGreatDoorWalkRp
import Derived.Test.YtnginfangeikpaaGreatDoorWalk19H
import Derived.Test.YtnginfangeikpaaGreatDoorMathFa
import Derived.Test.YtnginfangeikpaaGreatDoorKit
import Derived.Deep.DeepCutAuto
import Derived.Test.YtnginfangeikpaaGreatDoorWalkEe
import Derived.Test.YtnginfangeikpaaGreatDoorWalkEg
namespace Go.Proofs.YtnginfangeikpaaGreatDoor
open Go.RowKit Go.Lib
set_option linter.unusedSimpArgs false
set_option linter.unusedVariables false
def Wt (w:World) (B:Nat) (b:Int) (d:Bool) (l:List UInt8):Prop:=∃ p v,Bu w B 0 118 [p,v,.int .i64 b,.bool d,.int .i64 0] (B+1) p v l
theorem liesW:Lies 118 5 0:=⟨by kernel_rfl,by decide⟩
theorem Wt.new (w:World) (b:Int) (d:Bool):Wt (w.alloc (.cells #[.pointer none,.slice none 0 0,.int .i64 b,.bool d,.int .i64 0] 118)) w.heap.size b d []:=
 ⟨.pointer none,.slice none 0 0,Blk.new w [.pointer none,.slice none 0 0,.int .i64 b,.bool d,.int .i64 0] _,rfl,rfl,.inl rfl,World.ownsRowF_nil _ _ _ _,liesW,by decide⟩
theorem Wt.lt {w:World} {B:Nat} {b:Int} {d:Bool} {l:List UInt8} (h:Wt w B b d l):B<w.heap.size:=by
 obtain⟨p,v,h⟩:=h
 exact h.blk.lt
theorem Wt.gr {w w':World} {B:Nat} {b:Int} {d:Bool} {l:List UInt8} (h:Wt w B b d l) (hg:Gr w w'):Wt w' B b d l:=by
 obtain⟨p,v,h⟩:=h
 exact⟨p,v,h.blk.gr hg,h.hp,h.hv,h.self,World.ownsRowF.kept h.own hg.by0 (Classical.em _),h.lies,h.ne⟩
theorem Wt.cells {w:World} {B:Nat} {b:Int} {d:Bool} {l:List UInt8} (h:Wt w B b d l):w.cell? ⟨B,2,none⟩=some (.int .i64 b)∧w.cell? ⟨B,3,none⟩=some (.bool d)∧w.cell? ⟨B,4,none⟩=some (.int .i64 0)∧w.frozen? ⟨B,4,none⟩=false:=by
 obtain⟨p,v,h⟩:=h
 exact⟨h.blk.cell 2,h.blk.cell 3,h.blk.cell 4,h.blk.frozen 4⟩
theorem Wt.set {w:World} {B:Nat} {b:Int} {d:Bool} {l:List UInt8} (h:Wt w B b d l):Wt (w.setCell ⟨B,4,none⟩ (.int .i64 0)) B b d l∧By (Wb w B) w (w.setCell ⟨B,4,none⟩ (.int .i64 0)):=by
 obtain⟨p,v,h⟩:=h
 refine⟨⟨p,v,h.blk.set 4 (.int .i64 0),h.hp,h.hv,h.self,?_,h.lies,h.ne⟩,(By.of_set w ⟨B,4,none⟩ (.int .i64 0)).mono (fun k _ hk=>.inl hk)⟩
 exact World.ownsRowF.kept h.own (grown_setCell w ⟨B,4,none⟩ (.int .i64 0)) (.inr (h.blk.rowF h.own h.ne))
theorem Wb.trans {w w1 w2:World} {B:Nat} (h1:By (Wb w B) w w1) (h2:By (Wb w1 B) w1 w2):By (Wb w B) w w2:=
 h1.trans h2 (fun k hk hw=>Classical.byContradiction fun hn=>hn (by
  have hb:=h1.block hk hn
  rcases hw with hw | ⟨hw,c,f,hx⟩
  ·exact .inl hw
  ·exact .inr ⟨hw,c,f,by rw [← hb];exact hx⟩))
theorem Wb.of_gr {w w1:World} {B:Nat} (h:Gr w w1):By (Wb w B) w w1:=By.of_gr h
set_option maxRecDepth 20000 in
set_option maxHeartbeats 1000000 in
theorem wtext_any (B:Nat) (b:Int) (d:Bool) (l:List UInt8) (s:ByteArray) (w:World) (h:Wt w B b d l) (hlen:l.length+s.size≤140737488355328) :
  Calls Tryz.prog 48 #[.pointer (some ⟨B,0,none⟩),.string s] w fun e w'=>e=.returned (.tuple #[])∧Wt w' B b d (l ++ s.data.toList)∧By (Wb w B) w w':=by
 have HW:Hid (Calls Tryz.prog 78 #[.pointer (some ⟨B,0,none⟩),.string s] w fun e w'=>e=.returned (.tuple #[.int .i64 s.size,.nilIface])∧Wt w' B b d (l ++ s.data.toList)∧By (Wb w B) w w'):=by
  obtain⟨p,v,h⟩:=h
  have hk:=ownF_kind h.own
  have hge:=ownF_ge h.own
  refine (ws_any B 0 _ _ (B+1) p v l s w h hlen (by have:=h.blk.lt;omega)).mono ?_
  rintro e w' ⟨v',rfl,hU,hy⟩
  refine⟨rfl,⟨_,v',hU⟩,hy.mono (fun k _ hk2=>?_)⟩
  rcases hk2 with hk2 | hk2
  ·exact .inl hk2
  ·exact .inr ⟨by have:=hge k hk2;omega,hk k hk2⟩
 have hB:=h.lt
 clear h
 go_enter Tryz.func48,Tryz.ntmps48
 go_wp2_with (go_at_call 78;(with_reducible refine HW.out.mono ?_);rintro e w1 ⟨rfl,h1,h2⟩)
 refine bodyPost_end (v:=.tuple #[]) ?_ ?_ ?_
 ·exact results_none rfl _ _ _
 ·rfl
 exact⟨rfl,h1,h2⟩
theorem padL_t3 {n:Int} (h0:0≤n) (h1:n<1000):padL 3 n=t3 n:=by
 have h:∀ m:Fin 1000,padL 3 (m.1:Int)=t3 (m.1:Int):=by decide +kernel
 have:=h ⟨n.toNat,by omega⟩
 simp only at this
 rwa [show ((n.toNat:Nat):Int)=n by omega] at this
set_option maxRecDepth 20000 in
set_option maxHeartbeats 1000000 in
theorem wthree_0 (R:ByteArray) (B:Nat) (b:Int) (d:Bool) (acc l:List UInt8) (n:Int) (w:World) (h:Wt w B b d acc) (hT:Pow w) (hl:l.length=3) (hR:R.data.toList=List.replicate 0 48) (hlen:acc.length+3≤140737488355328)
  (HF:∀ w,Pow w→Calls Tryz.prog 109 #[.int .i64 n,.int .i64 10] w fun e w'=>e=.returned (.string ⟨l.toArray⟩)∧Gr w w')
  (HR:∀ w,Calls Tryz.prog 110 #[.string ⟨#[48]⟩,.int .i64 0] w fun e w'=>e=.returned (.string R)∧Gr w w') :
  Calls Tryz.prog 79 #[.pointer (some ⟨B,0,none⟩),.int .i64 n] w fun e w'=>e=.returned (.tuple #[])∧Wt w' B b d (acc ++ (List.replicate 0 48 ++ l))∧By (Wb w B) w w':=by
 have HF:=Lib.hid HF
 have HR:=Lib.hid HR
 have hT:=Lib.hid hT
 have HW:Hid (∀ w',Gr w w'→Calls Tryz.prog 48 #[.pointer (some ⟨B,0,none⟩),.string (R ++ ⟨l.toArray⟩)] w' fun e w''=>e=.returned (.tuple #[])∧Wt w'' B b d (acc ++ (List.replicate 0 48 ++ l))∧By (Wb w B) w w''):=fun w' hg=>by
  have e:(R ++ ⟨l.toArray⟩:ByteArray).data.toList=List.replicate 0 48 ++ l:=by rw [← hR];simp
  have el:(R ++ ⟨l.toArray⟩:ByteArray).size=3:=by rw [← ba_len,e,List.length_append,List.length_replicate,hl]
  generalize (R ++ ⟨l.toArray⟩:ByteArray)=S at e el ⊢
  refine (wtext_any B b d acc S w' (h.gr hg) (by rw [el];exact hlen)).mono ?_
  rintro e2 w'' ⟨rfl,h1,h2⟩
  rw [e] at h1
  exact⟨rfl,h1,Wb.trans (Wb.of_gr hg) h2⟩
 have hB:=h.lt
 have hRz:R.size≤2:=by rw [← ba_len,hR,List.length_replicate];omega
 clear h hR
 go_enter Tryz.func79,Tryz.ntmps79
 go_wp2_with (first
  | (go_at_call 109;(with_reducible refine (HF.out _ hT.out).mono ?_);rintro e w1 ⟨rfl,hg1⟩)
  | (go_at_call 110;(refine (HR.out _).mono ?_);rintro e w2 ⟨rfl,hg2⟩)
  | (go_at_call 48;(with_reducible refine (HW.out _ (hg1.trans hg2)).mono ?_);rintro e w3 ⟨rfl,h1,h2⟩))
 refine bodyPost_end (v:=.tuple #[]) ?_ ?_ ?_
 ·exact results_none rfl _ _ _
 ·rfl
 exact⟨rfl,h1,h2⟩
set_option maxRecDepth 20000 in
set_option maxHeartbeats 1000000 in
theorem wthree_1 (R:ByteArray) (B:Nat) (b:Int) (d:Bool) (acc l:List UInt8) (n:Int) (w:World) (h:Wt w B b d acc) (hT:Pow w) (hl:l.length=2) (hR:R.data.toList=List.replicate 1 48) (hlen:acc.length+3≤140737488355328)
  (HF:∀ w,Pow w→Calls Tryz.prog 109 #[.int .i64 n,.int .i64 10] w fun e w'=>e=.returned (.string ⟨l.toArray⟩)∧Gr w w')
  (HR:∀ w,Calls Tryz.prog 110 #[.string ⟨#[48]⟩,.int .i64 1] w fun e w'=>e=.returned (.string R)∧Gr w w') :
  Calls Tryz.prog 79 #[.pointer (some ⟨B,0,none⟩),.int .i64 n] w fun e w'=>e=.returned (.tuple #[])∧Wt w' B b d (acc ++ (List.replicate 1 48 ++ l))∧By (Wb w B) w w':=by
 have HF:=Lib.hid HF
 have HR:=Lib.hid HR
 have hT:=Lib.hid hT
 have HW:Hid (∀ w',Gr w w'→Calls Tryz.prog 48 #[.pointer (some ⟨B,0,none⟩),.string (R ++ ⟨l.toArray⟩)] w' fun e w''=>e=.returned (.tuple #[])∧Wt w'' B b d (acc ++ (List.replicate 1 48 ++ l))∧By (Wb w B) w w''):=fun w' hg=>by
  have e:(R ++ ⟨l.toArray⟩:ByteArray).data.toList=List.replicate 1 48 ++ l:=by rw [← hR];simp
  have el:(R ++ ⟨l.toArray⟩:ByteArray).size=3:=by rw [← ba_len,e,List.length_append,List.length_replicate,hl]
  generalize (R ++ ⟨l.toArray⟩:ByteArray)=S at e el ⊢
  refine (wtext_any B b d acc S w' (h.gr hg) (by rw [el];exact hlen)).mono ?_
  rintro e2 w'' ⟨rfl,h1,h2⟩
  rw [e] at h1
  exact⟨rfl,h1,Wb.trans (Wb.of_gr hg) h2⟩
 have hB:=h.lt
 have hRz:R.size≤2:=by rw [← ba_len,hR,List.length_replicate];omega
 clear h hR
 go_enter Tryz.func79,Tryz.ntmps79
 go_wp2_with (first
  | (go_at_call 109;(with_reducible refine (HF.out _ hT.out).mono ?_);rintro e w1 ⟨rfl,hg1⟩)
  | (go_at_call 110;(refine (HR.out _).mono ?_);rintro e w2 ⟨rfl,hg2⟩)
  | (go_at_call 48;(with_reducible refine (HW.out _ (hg1.trans hg2)).mono ?_);rintro e w3 ⟨rfl,h1,h2⟩))
 refine bodyPost_end (v:=.tuple #[]) ?_ ?_ ?_
 ·exact results_none rfl _ _ _
 ·rfl
 exact⟨rfl,h1,h2⟩
set_option maxRecDepth 20000 in
set_option maxHeartbeats 1000000 in
theorem wthree_2 (R:ByteArray) (B:Nat) (b:Int) (d:Bool) (acc l:List UInt8) (n:Int) (w:World) (h:Wt w B b d acc) (hT:Pow w) (hl:l.length=1) (hR:R.data.toList=List.replicate 2 48) (hlen:acc.length+3≤140737488355328)
  (HF:∀ w,Pow w→Calls Tryz.prog 109 #[.int .i64 n,.int .i64 10] w fun e w'=>e=.returned (.string ⟨l.toArray⟩)∧Gr w w')
  (HR:∀ w,Calls Tryz.prog 110 #[.string ⟨#[48]⟩,.int .i64 2] w fun e w'=>e=.returned (.string R)∧Gr w w') :
  Calls Tryz.prog 79 #[.pointer (some ⟨B,0,none⟩),.int .i64 n] w fun e w'=>e=.returned (.tuple #[])∧Wt w' B b d (acc ++ (List.replicate 2 48 ++ l))∧By (Wb w B) w w':=by
 have HF:=Lib.hid HF
 have HR:=Lib.hid HR
 have hT:=Lib.hid hT
 have HW:Hid (∀ w',Gr w w'→Calls Tryz.prog 48 #[.pointer (some ⟨B,0,none⟩),.string (R ++ ⟨l.toArray⟩)] w' fun e w''=>e=.returned (.tuple #[])∧Wt w'' B b d (acc ++ (List.replicate 2 48 ++ l))∧By (Wb w B) w w''):=fun w' hg=>by
  have e:(R ++ ⟨l.toArray⟩:ByteArray).data.toList=List.replicate 2 48 ++ l:=by rw [← hR];simp
  have el:(R ++ ⟨l.toArray⟩:ByteArray).size=3:=by rw [← ba_len,e,List.length_append,List.length_replicate,hl]
  generalize (R ++ ⟨l.toArray⟩:ByteArray)=S at e el ⊢
  refine (wtext_any B b d acc S w' (h.gr hg) (by rw [el];exact hlen)).mono ?_
  rintro e2 w'' ⟨rfl,h1,h2⟩
  rw [e] at h1
  exact⟨rfl,h1,Wb.trans (Wb.of_gr hg) h2⟩
 have hB:=h.lt
 have hRz:R.size≤2:=by rw [← ba_len,hR,List.length_replicate];omega
 clear h hR
 go_enter Tryz.func79,Tryz.ntmps79
 go_wp2_with (first
  | (go_at_call 109;(with_reducible refine (HF.out _ hT.out).mono ?_);rintro e w1 ⟨rfl,hg1⟩)
  | (go_at_call 110;(refine (HR.out _).mono ?_);rintro e w2 ⟨rfl,hg2⟩)
  | (go_at_call 48;(with_reducible refine (HW.out _ (hg1.trans hg2)).mono ?_);rintro e w3 ⟨rfl,h1,h2⟩))
 refine bodyPost_end (v:=.tuple #[]) ?_ ?_ ?_
 ·exact results_none rfl _ _ _
 ·rfl
 exact⟨rfl,h1,h2⟩
theorem wthree_any (B:Nat) (b:Int) (d:Bool) (acc:List UInt8) (n:Int) (w:World) (h:Wt w B b d acc) (hT:Pow w) (h0:0≤n) (h1:n<1000) (hlen:acc.length+3≤140737488355328) :
  Calls Tryz.prog 79 #[.pointer (some ⟨B,0,none⟩),.int .i64 n] w fun e w'=>e=.returned (.tuple #[])∧Wt w' B b d (acc ++ t3 n)∧By (Wb w B) w w':=by
 have h3:=itoa_len ⟨n.toNat,by omega⟩
 have hn:((⟨n.toNat,by omega⟩:Fin 1000):Int)=n:=by show ((n.toNat:Nat):Int)=n;omega
 have h4:1≤(itoa n).length∧(itoa n).length≤3:=by
  have e:(itoa ((⟨n.toNat,by omega⟩:Fin 1000):Int))=itoa n:=by rw [hn]
  rw [← e]
  exact⟨h3.1,h3.2.2⟩
 have HF:∀ w,Pow w→Calls Tryz.prog 109 #[.int .i64 n,.int .i64 10] w fun e w'=>e=.returned (.string ⟨(itoa n).toArray⟩)∧Gr w w':=fun w hT=>fint_any n w hT (by omega) (by omega)
 rw [← padL_t3 h0 h1]
 unfold padL
 have hc:(itoa n).length=3∨(itoa n).length=2∨(itoa n).length=1:=by omega
 rcases hc with hc | hc | hc
 ·rw [hc];exact wthree_0 _ B b d acc _ n w h hT hc rfl hlen HF repeat_0
 ·rw [hc];exact wthree_1 _ B b d acc _ n w h hT hc rfl hlen HF repeat_1
 ·rw [hc];exact wthree_2 _ B b d acc _ n w h hT hc rfl hlen HF repeat_2
theorem lab_ok {n b:Int} {d:Bool} (ho:C19.okB b d=true) (h0:0≤n) (h1:n<C19.dayN b d) :
  C19.nmE (C19.lm n b d / 60) (C19.lm n b d % 60) (C19.lf n b d / b) (C19.lf n b d % b) b d=0:=by
 have hq:=C19.label_num ho h0 h1
 have e:n % C19.dayN b d=n:=Int.emod_eq_of_lt h0 h1
 unfold C19.nmE C19.lm C19.lf
 rw [e,ho,hq.1,hq.2.1]
 rfl
set_option maxRecDepth 20000 in
set_option maxHeartbeats 4000000 in
theorem wcode_core (x1 x2 x3 x4:Int) (S:ByteArray) (r:List UInt8) (hS:S.size≤11) (B:Nat) (b:Int) (d:Bool) (acc:List UInt8) (n:Int) (w:World) (h:Wt w B b d acc)
  (HL:∀ w',Calls Tryz.prog 111 #[.int .i64 n,.int .i64 b,.bool d] w' fun e w''=>e=.returned (.tuple #[.agg #[.int .i64 x1,.int .i64 x2,.int .i64 x3,.int .i64 x4,.int .i64 b,.bool d],.int .i64 0])∧Gr w' w'')
  (HF:∀ w',Calls Tryz.prog 112 #[.agg #[.int .i64 x1,.int .i64 x2,.int .i64 x3,.int .i64 x4,.int .i64 b,.bool d]] w' fun e w''=>e=.returned (.tuple #[.string S,.int .i64 0])∧Gr w' w'')
  (HW:∀ w',Gr w w'→Calls Tryz.prog 48 #[.pointer (some ⟨B,0,none⟩),.string (⟨#[32]⟩ ++ S)] w' fun e w''=>e=.returned (.tuple #[])∧Wt w'' B b d r∧By (Wb w B) w w'') :
  Calls Tryz.prog 80 #[.pointer (some ⟨B,0,none⟩),.int .i64 n] w fun e w'=>e=.returned (.tuple #[])∧Wt w' B b d r∧By (Wb w B) w w':=by
 have HL:=Lib.hid HL
 have HF:=Lib.hid HF
 have HW:=Lib.hid HW
 have hB:=h.lt
 obtain⟨c2,c3,c4,c5⟩:=h.cells
 go_enter Tryz.func80,Tryz.ntmps80
 go_wp2
 refine wp_region_mix 13 (by kernel_rfl) (by kernel_rfl) (fun B hB hq1 hq2=>?_)
 simp only [List.take_succ_cons,List.take_zero,List.drop_succ_cons,List.drop_zero]
 repeat (first | go_big_quiet_skip | (go_big_quiet_want;go_big_quiet_op;first | go_big_quiet_on | (apply Exists.intro;refine⟨fun _=>?_,?_⟩;(· ((go_at_call 111;with_reducible exact gr_call (HL.out _))));go_big_quiet_on)))
 refine wpQuiet_nil ?_
 clear hq1 hq2 hB B
 refine loudRun_cons (fun R2 hR2 w2 hg2=>?_)
 obtain⟨hc2,hf2⟩:=hg2.cells
 have hz2:=hg2.size
 (try simp at hz2);(try have hl2_0_0:w.heap.size<w2.heap.size:=by omega);(try have hm2_0_0:w.heap.size≤w2.heap.size:=by omega);(try have hl2_0_1:w.heap.size+1<w2.heap.size:=by omega);(try have hl2_0_2:w.heap.size+2<w2.heap.size:=by omega);(try have hl2_1_0:w1.heap.size<w2.heap.size:=by omega);(try have hm2_1_0:w1.heap.size≤w2.heap.size:=by omega);(try have hl2_1_1:w1.heap.size+1<w2.heap.size:=by omega);(try have hl2_1_2:w1.heap.size+2<w2.heap.size:=by omega)
 go_wp2_with fail
 refine only_normal (hR2 _ _ (by repeat (first | with_reducible exact Gr.refl _ | with_reducible assumption | refine Gr.setCell ?_ (by first | omega | (simp;done) | (simp;omega)) _ | refine Gr.alloc ?_ _ | refine Gr.drew ?_ | refine Gr.drewN ?_ _ | refine Gr.trans ?_ (by with_reducible assumption))) ?_)
 clear hR2 R2
 have cG:=Cel.new w2 #[.int .i64 0,.int .i64 0,.int .i64 0,.int .i64 0,.int .i64 0,.bool false] 183
 obtain⟨G,hG⟩:∃ G,w2.heap.size=G:=⟨_,rfl⟩
 have hGw:w.heap.size≤G:=by have:=hg2.size;omega
 refine loudRun_cons (fun R hR w3 hg3=>?_)
 have c3:=cG.gr hg3
 rw [hG] at c3 ⊢
 have l0:=c3.lt
 obtain⟨p0,f0⟩:=c3.2 0 _ rfl
 obtain⟨p1,f1⟩:=c3.2 1 _ rfl
 obtain⟨p2,f2⟩:=c3.2 2 _ rfl
 obtain⟨p3,f3⟩:=c3.2 3 _ rfl
 obtain⟨p4,f4⟩:=c3.2 4 _ rfl
 obtain⟨p5,f5⟩:=c3.2 5 _ rfl
 go_wp2_with fail
 have hgS:Gr w ((((((w3.setCell ⟨G,0,none⟩ (.int .i64 x1)).setCell ⟨G,1,none⟩ (.int .i64 x2)).setCell ⟨G,2,none⟩ (.int .i64 x3)).setCell ⟨G,3,none⟩ (.int .i64 x4)).setCell ⟨G,4,none⟩ (.int .i64 b)).setCell ⟨G,5,none⟩ (.bool d)):=((((((hg2.trans (((Gr.refl w2).alloc _).trans hg3)).setCell (by simp;omega) _).setCell (by simp;omega) _).setCell (by simp;omega) _).setCell (by simp;omega) _).setCell (by simp;omega) _).setCell (by simp;omega) _
 have cS:=(((((c3.set (k:=0) (by simp) (.int .i64 x1)).set (k:=1) (by simp) (.int .i64 x2)).set (k:=2) (by simp) (.int .i64 x3)).set (k:=3) (by simp) (.int .i64 x4)).set (k:=4) (by simp) (.int .i64 b)).set (k:=5) (by simp) (.bool d)
 simp only [zS,zZ] at cS
 refine only_normal (hR _ _ hgS ?_)
 clear hR R
 clear c3 cG hg2 hg3 hG l0 p0 p1 p2 p3 p4 p5 f0 f1 f2 f3 f4 f5
 generalize (((((w3.setCell ⟨G,0,none⟩ (.int .i64 x1)).setCell ⟨G,1,none⟩ (.int .i64 x2)).setCell ⟨G,2,none⟩ (.int .i64 x3)).setCell ⟨G,3,none⟩ (.int .i64 x4)).setCell ⟨G,4,none⟩ (.int .i64 b)).setCell ⟨G,5,none⟩ (.bool d)=W at *
 refine loudRun_cons (fun R hR w4 hg4=>?_)
 go_wp2_with fail
 refine only_normal (hR _ _ (hgS.trans hg4) ?_)
 clear hR R
 refine loudRun_nil (fun w5 hg5=>?_)
 replace cS:=(cS.gr hg4).gr hg5
 replace hgS:=(hgS.trans hg4).trans hg5
 clear hg4 hg5
 have k0:=cS.lt
 have k1:=(cS.2 0 _ rfl).1
 have k2:=(cS.2 1 _ rfl).1
 have k3:=(cS.2 2 _ rfl).1
 have k4:=(cS.2 3 _ rfl).1
 have k5:=(cS.2 4 _ rfl).1
 have k6:=(cS.2 5 _ rfl).1
 clear cS c2 c3 c4 c5
 go_wp2_with (first
  | (go_at_call 112;(with_reducible refine (HF.out _).mono ?_);rintro e w6 ⟨rfl,hg6⟩)
  | (go_at_call 48;(with_reducible refine (HW.out _ (hgS.trans hg6)).mono ?_);rintro e w7 ⟨rfl,h3,h4⟩;have hBl:=h3.lt;obtain⟨d2,d3,d4,d5⟩:=h3.cells))
 refine bodyPost_end (v:=.tuple #[]) ?_ ?_ ?_
 ·exact results_none rfl _ _ _
 ·rfl
 exact⟨rfl,h3.set.1,Wb.trans h4 h3.set.2⟩
theorem wcode_any (B:Nat) (b:Int) (d:Bool) (acc:List UInt8) (n:Int) (w:World) (h:Wt w B b d acc) (ho:C19.okB b d=true) (h0:0≤n) (h1:n<C19.dayN b d) (hlen:acc.length+12≤140737488355328) :
  Calls Tryz.prog 80 #[.pointer (some ⟨B,0,none⟩),.int .i64 n] w fun e w'=>e=.returned (.tuple #[])∧Wt w' B b d (acc ++ ([32] ++ labB n b d))∧By (Wb w B) w w':=by
 have hd:=(C19.dayN_pos ho).2
 refine wcode_core (C19.lm n b d / 60) (C19.lm n b d % 60) (C19.lf n b d / b) (C19.lf n b d % b) (labS n b d) _ (by rw [← ba_len];exact Nat.le_of_eq (labB_no ho).2) B b d acc n w h (fun w'=>C19.label_any n b d w' ⟨by omega,by omega⟩ ho) (fun w'=>?_) (fun w' hg=>?_)
 ·have:=C19.format_any (C19.lm n b d / 60) (C19.lm n b d % 60) (C19.lf n b d / b) (C19.lf n b d % b) b d w'
  unfold C19.fmV at this
  rw [lab_ok ho h0 h1,if_pos rfl] at this
  exact this
 ·have e:((⟨#[32]⟩:ByteArray) ++ labS n b d).data.toList=[32] ++ labB n b d:=by unfold labB;simp
  have el:((⟨#[32]⟩:ByteArray) ++ labS n b d).size=12:=by rw [← ba_len,e,List.length_append,(labB_no ho).2];rfl
  generalize (⟨#[32]⟩:ByteArray) ++ labS n b d=S at e el ⊢
  refine (wtext_any B b d acc S w' (h.gr hg) (by rw [el];exact hlen)).mono ?_
  rintro e2 w'' ⟨rfl,h1,h2⟩
  rw [e] at h1
  exact⟨rfl,h1,Wb.trans (Wb.of_gr hg) h2⟩
structure Ws (w0 W0:World) (B E:Nat) (b:Int) (d:Bool) (vs:List Value) (w:World) (l:List UInt8):Prop where
 by_:By (Wb w0 B) w0 w
 gr0:Gr W0 w
 wt:Wt w B b d l
 box:Blk w E 38 vs
theorem Ws.step {w0 W0 w w':World} {B E:Nat} {b:Int} {d:Bool} {vs:List Value} {l l':List UInt8} (h:Ws w0 W0 B E b d vs w l) (hE:E≠B) (hB:W0.heap.size≤B) (hw:Wt w' B b d l') (hy:By (Wb w B) w w'):Ws w0 W0 B E b d vs w' l':=
 ⟨Wb.trans h.by_ hy,Wb.gr hy h.gr0 hB,hw,Wb.blk hy h.box hE (by decide)⟩
theorem Ws.gr {w0 W0 w w':World} {B E:Nat} {b:Int} {d:Bool} {vs:List Value} {l:List UInt8} (h:Ws w0 W0 B E b d vs w l) (hg:Gr w w'):Ws w0 W0 B E b d vs w' l:=
 ⟨Wb.trans h.by_ (Wb.of_gr hg),h.gr0.trans hg,h.wt.gr hg,h.box.gr hg⟩
theorem itoa_p {p:Int} (h0:0≤p) (h1:p<10):itoa p=[b8 (48+p)]:=by
 have h:∀ m:Fin 10,itoa (m.1:Int)=[b8 (48+(m.1:Int))]:=by decide +kernel
 have:=h ⟨p.toNat,by omega⟩
 simp only at this
 rwa [show ((p.toNat:Nat):Int)=p by omega] at this
theorem t3_len (n:Int):(t3 n).length=3:=rfl
theorem kd_size {e:Ev} {n day:Int} (h:VE e n day):(kdB e).length≤6:=by
 unfold kdB
 split
 ·simp
 ·split <;> simp [t3]
theorem reel_size {e:Ev} {n day:Int} (h:VE e n day):(reelB e).length≤32:=by
 unfold reelB
 split
 ·simp
 ·rename_i hz
  rcases h.reel with h | h
  ·exact absurd h hz
  ·unfold nmB at h
   simp only [Bool.and_eq_true,decide_eq_true_eq] at h
   rw [ba_len]
   exact h.1.2
set_option maxRecDepth 20000 in
set_option maxHeartbeats 8000000 in
theorem wevent_any (W0:World) (B:Nat) (b:Int) (d:Bool) (acc:List UInt8) (num:Int) (e:Ev) (least:Int) (w:World) (hP:Pow W0) (hg0:Gr W0 w) (hB0:W0.heap.size≤B) (h:Wt w B b d acc) (ho:C19.okB b d=true) (h0:0≤least) (hv:VE e least (C19.dayN b d)) (hn0:0≤num) (hn1:num<1000) (hlen:acc.length+1000≤140737488355328) :
  Calls Tryz.prog 49 #[.pointer (some ⟨B,0,none⟩),.int .i64 num,e.val] w fun en w'=>en=.returned (.tuple #[])∧Wt w' B b d (acc ++ (evL b d num e ++ [10]))∧By (Wb w B) w w':=by
 have hd:=(C19.dayN_pos ho).2
 obtain⟨bi0,bo0,bi1,bo1,bfr⟩:=hv.bounds h0
 have hks:=kd_size hv
 have hrs:=reel_size hv
 have hB:=h.lt
 obtain⟨E,hE⟩:∃ E,w.heap.size=E:=⟨_,rfl⟩
 have hEB:E≠B:=by omega
 obtain⟨vs,hvs⟩:∃ vs,e.cells=vs:=⟨_,rfl⟩
 have hS0:Ws w W0 B E b d vs (w.alloc (.cells #[.int .i64 e.k,.int .i64 e.p,.int .i64 e.fr,.string e.reel,.int .i64 e.i,.int .i64 e.o,.int .i64 e.f,.int .i64 e.t] 38)) acc:=by
  have hga:=(Gr.refl w).alloc (.cells #[.int .i64 e.k,.int .i64 e.p,.int .i64 e.fr,.string e.reel,.int .i64 e.i,.int .i64 e.o,.int .i64 e.f,.int .i64 e.t] 38)
  rw [← hE,← hvs]
  exact⟨Wb.of_gr hga,hg0.trans hga,h.gr hga,Blk.new w e.cells _⟩
 have HT:Hid (∀ w' l' s,Ws w W0 B E b d vs w' l'→l'.length+s.size≤140737488355328→Calls Tryz.prog 48 #[.pointer (some ⟨B,0,none⟩),.string s] w' fun en w''=>en=.returned (.tuple #[])∧Ws w W0 B E b d vs w'' (l' ++ s.data.toList)):=fun w' l' s hs hl=>(wtext_any B b d l' s w' hs.wt hl).mono fun en w'' ⟨h1,h2,h3⟩=>⟨h1,hs.step hEB hB0 h2 h3⟩
 have H3:Hid (∀ w' l' n,Ws w W0 B E b d vs w' l'→0≤n→n<1000→l'.length+3≤140737488355328→Calls Tryz.prog 79 #[.pointer (some ⟨B,0,none⟩),.int .i64 n] w' fun en w''=>en=.returned (.tuple #[])∧Ws w W0 B E b d vs w'' (l' ++ t3 n)):=fun w' l' n hs h1 h2 hl=>(wthree_any B b d l' n w' hs.wt (Pow.gr hs.gr0 hP) h1 h2 hl).mono fun en w'' ⟨h1,h2,h3⟩=>⟨h1,hs.step hEB hB0 h2 h3⟩
 have HC:Hid (∀ w' l' n,Ws w W0 B E b d vs w' l'→0≤n→n<C19.dayN b d→l'.length+12≤140737488355328→Calls Tryz.prog 80 #[.pointer (some ⟨B,0,none⟩),.int .i64 n] w' fun en w''=>en=.returned (.tuple #[])∧Ws w W0 B E b d vs w'' (l' ++ ([32] ++ labB n b d))):=fun w' l' n hs h1 h2 hl=>(wcode_any B b d l' n w' hs.wt ho h1 h2 hl).mono fun en w'' ⟨h1,h2,h3⟩=>⟨h1,hs.step hEB hB0 h2 h3⟩
 have HI:Hid (∀ w' l' p,Ws w W0 B E b d vs w' l'→0≤p→p<10→Calls Tryz.prog 81 #[.int .i64 p] w' fun en w''=>en=.returned (.string ⟨#[b8 (48+p)]⟩)∧Ws w W0 B E b d vs w'' l'):=fun w' l' p hs h1 h2=>(itoa_any p w' (Pow.gr hs.gr0 hP) (by omega) (by omega)).mono fun en w'' ⟨q1,q2⟩=>⟨by rw [q1,itoa_p h1 h2],hs.gr q2⟩
 have hcell:Hid (∀ w' l',Ws w W0 B E b d vs w' l'→E<w'.heap.size∧w'.cell? ⟨E,0,none⟩=some (.int .i64 e.k)∧w'.cell? ⟨E,1,none⟩=some (.int .i64 e.p)∧w'.cell? ⟨E,2,none⟩=some (.int .i64 e.fr)∧w'.cell? ⟨E,3,none⟩=some (.string e.reel)∧w'.cell? ⟨E,4,none⟩=some (.int .i64 e.i)∧w'.cell? ⟨E,5,none⟩=some (.int .i64 e.o)∧w'.cell? ⟨E,6,none⟩=some (.int .i64 e.f)∧w'.cell? ⟨E,7,none⟩=some (.int .i64 e.t)):=fun w' l' hs=>by
  have hb:=hs.box
  rw [← hvs] at hb
  exact⟨hb.lt,hb.cell 0,hb.cell 1,hb.cell 2,hb.cell 3,hb.cell 4,hb.cell 5,hb.cell 6,hb.cell 7⟩
 have fin:Hid (∀ w' l',Ws w W0 B E b d vs w' l'→l'=acc ++ (evL b d num e ++ [10])→Wt w' B b d (acc ++ (evL b d num e ++ [10]))∧By (Wb w B) w w'):=fun w' l' hs hl=>by rw [← hl];exact⟨hs.wt,hs.by_⟩
 have hreel:Hid ((e.reel.size=0∧reelB e=[66,76])∨(e.reel.size≠0∧e.reel.size≤32∧reelB e=e.reel.data.toList)):=by
  by_cases hz:e.reel.size=0
  ·exact .inl ⟨hz,if_pos hz⟩
  ·have hq:reelB e=e.reel.data.toList:=if_neg hz
   rw [hq,ba_len] at hrs
   exact .inr ⟨hz,hrs,hq⟩
 have hkind:Hid ((e.k=0∧kdB e=[67])∨(e.k=1∧1≤e.fr∧e.fr≤999∧kdB e=68 :: 32 :: t3 e.fr)∨(e.k=2∧1≤e.fr∧e.fr≤999∧0≤e.p∧e.p≤3∧kdB e=87 :: b8 (48+e.p) :: 32 :: t3 e.fr)):=by
  unfold kdB
  rcases hv.kd with ⟨k0,_⟩ | ⟨k0,k1,k2,k3⟩ | ⟨k0,k1,k2,k3,k4⟩
  ·exact .inl ⟨k0,if_pos k0⟩
  ·exact .inr (.inl ⟨k0,k1,k2,by rw [if_neg (by omega),if_pos k0]⟩)
  ·exact .inr (.inr ⟨k0,k1,k2,k3,k4,by rw [if_neg (by omega),if_neg (by omega)]⟩)
 have hev:Hid (evL b d num e=t3 num ++ ([32] ++ (reelB e ++ ([32,86,32] ++ (kdB e ++ ([32] ++ labB e.i b d ++ ([32] ++ labB e.o b d ++ ([32] ++ labB e.f b d ++ ([32] ++ labB e.t b d))))))))):=rfl
 have hlab:Hid (∀ n,(labB n b d).length=11):=fun n=>(labB_no ho).2
 have bt:e.f<e.t∧e.t<C19.dayN b d∧0≤e.f:=⟨hv.ft,hv.d,by have:=hv.l;omega⟩
 have bi:e.i<C19.dayN b d∧e.o<C19.dayN b d:=by have:=hv.d;have:=hv.ft;have:=hv.l;rcases hv.rl with ⟨_,h1,h2⟩ | ⟨_,_,h1,h2,h3,h4⟩ <;> omega
 have hnm:∀ w',Ws w W0 B E b d vs w' acc→True:=fun _ _=>trivial
 clear hnm h hv hg0 hP hvs
 unfold Ev.val
 generalize reelB e=R at *
 generalize kdB e=K at *
 generalize evL b d num e=X at *
 generalize C19.dayN b d=day at *
 have hmf:=hmf_any Tryz.prog
 subst hE
 go_enter Tryz.func49,Tryz.ntmps49
 go_upto_if 22 with (first
  | (go_at_call 79;(with_reducible refine (H3.out _ acc num hS0 hn0 hn1 ?_).mono ?_);(· omega);rintro en w1 ⟨rfl,hS1⟩)
  | (go_at_call 48;(with_reducible refine (HT.out _ (acc ++ t3 num) ⟨#[32]⟩ hS1 ?_).mono ?_);(· rw [show (⟨#[32]⟩:ByteArray).size=1 from rfl];(try simp only [List.length_append,List.length_cons,List.length_nil,t3_len,hlab.out]);omega);rintro en w2 ⟨rfl,hS2⟩;obtain⟨x0,y0,y1,y2,y3,y4,y5,y6,y7⟩:=hcell.out _ _ hS2))
 go_cut [24] (fun _ wx=>Ws w W0 B w.heap.size b d vs wx (acc ++ t3 num ++ [32] ++ R))
 case first=>as_aux_lemma=>
  rcases hreel.out with ⟨hz,hR⟩ | ⟨hz,hrz,hR⟩
  ·have q:e.reel.toList.isEmpty=true:=by rw [size_zero_iff];exact decide_eq_true hz
   clear hz
   simp only [q]
   go_wp2_with (go_at_call 48;(with_reducible refine (HT.out _ (acc ++ t3 num ++ [32]) ⟨#[66,76]⟩ hS2 ?_).mono ?_);(· rw [show (⟨#[66,76]⟩:ByteArray).size=2 from rfl];(try simp only [List.length_append,List.length_cons,List.length_nil,t3_len,hlab.out]);omega);rintro en w3 ⟨rfl,hS3⟩)
   go_meet
   rw [hR]
   exact hS3
  ·have q:e.reel.toList.isEmpty=false:=by rw [size_zero_iff];exact decide_eq_false hz
   clear hz
   simp only [q]
   go_wp2_with (go_at_call 48;(with_reducible refine (HT.out _ (acc ++ t3 num ++ [32]) e.reel hS2 ?_).mono ?_);(· (try simp only [List.length_append,List.length_cons,List.length_nil,t3_len,hlab.out]);omega);rintro en w3 ⟨rfl,hS3⟩)
   go_meet
   rw [hR]
   exact hS3
 case rest=>as_aux_lemma=>
  have hS3:=hcut
  clear hcut hS2 hS1 hS0 x0 y0 y1 y2 y3 y4 y5 y6 y7
  go_upto_region 8 with (go_at_call 48;(with_reducible refine (HT.out _ (acc ++ t3 num ++ [32] ++ R) ⟨#[32,86,32]⟩ hS3 ?_).mono ?_);(· rw [show (⟨#[32,86,32]⟩:ByteArray).size=3 from rfl];(try simp only [List.length_append,List.length_cons,List.length_nil,t3_len,hlab.out]);omega);rintro en w4 ⟨rfl,hS4⟩;obtain⟨x0,y0,y1,y2,y3,y4,y5,y6,y7⟩:=hcell.out _ _ hS4)
  go_cut [32] (fun v wx=>v=.int .i64 e.k∧Ws w W0 B w.heap.size b d vs wx (acc ++ t3 num ++ [32] ++ R ++ [32,86,32]))
  case first=>as_aux_lemma=>
   go_wp2
   go_meet
   exact⟨rfl,hS4⟩
  case rest=>as_aux_lemma=>
  obtain⟨rfl,hS4⟩:=hcut
  obtain⟨x0,y0,y1,y2,y3,y4,y5,y6,y7⟩:=hcell.out _ _ hS4
  clear hS3
  refine (‹∀ (a:Act) (w:World),Code.wp Tryz.prog (.block 0 _) _ a w→_›) _ _ ?_
  go_cut [35] (fun _ wx=>Ws w W0 B w.heap.size b d vs wx (acc ++ t3 num ++ [32] ++ R ++ [32,86,32] ++ K))
  case first=>as_aux_lemma=>
   rcases hkind.out with ⟨k0,hK⟩ | ⟨k0,k1,k2,hK⟩ | ⟨k0,k1,k2,k3,k4,hK⟩
   ·have q0:(e.k == 0)=true:=beq_iff_eq.2 k0
    clear k0
    go_wp2_with (go_at_call 48;(with_reducible refine (HT.out _ (acc ++ t3 num ++ [32] ++ R ++ [32,86,32]) ⟨#[67]⟩ hS4 ?_).mono ?_);(· rw [show (⟨#[67]⟩:ByteArray).size=1 from rfl];(try simp only [List.length_append,List.length_cons,List.length_nil,t3_len,hlab.out]);omega);rintro en w5 ⟨rfl,hS5⟩)
    go_meet
    rw [hK]
    exact hS5
   ·have q0:(e.k == 0)=false:=beq_eq_false_iff_ne.2 (by omega)
    have q1:(e.k == 1)=true:=beq_iff_eq.2 k0
    clear k0
    go_wp2_with (first
     | (go_at_call 48;(with_reducible refine (HT.out _ (acc ++ t3 num ++ [32] ++ R ++ [32,86,32]) ⟨#[68,32]⟩ hS4 ?_).mono ?_);(· rw [show (⟨#[68,32]⟩:ByteArray).size=2 from rfl];(try simp only [List.length_append,List.length_cons,List.length_nil,t3_len,hlab.out]);omega);rintro en w5 ⟨rfl,hS5⟩;obtain⟨v0,z0,z1,z2,z3,z4,z5,z6,z7⟩:=hcell.out _ _ hS5)
     | (go_at_call 79;(with_reducible refine (H3.out _ (acc ++ t3 num ++ [32] ++ R ++ [32,86,32] ++ [68,32]) e.fr hS5 ?_ ?_ ?_).mono ?_);(· omega);(· omega);(· (try simp only [List.length_append,List.length_cons,List.length_nil,t3_len,hlab.out]);omega);rintro en w6 ⟨rfl,hS6⟩))
    go_meet
    rw [hK]
    simpa only [List.append_assoc,List.cons_append,List.nil_append] using hS6
   ·have q0:(e.k == 0)=false:=beq_eq_false_iff_ne.2 (by omega)
    have q1:(e.k == 1)=false:=beq_eq_false_iff_ne.2 (by omega)
    have q2:(e.k == 2)=true:=beq_iff_eq.2 k0
    have hX3:Hid ((⟨#[87]⟩ ++ ⟨#[b8 (48+e.p)]⟩ ++ ⟨#[32]⟩:ByteArray).data.toList=[87,b8 (48+e.p),32]):=Lib.hid (by simp)
    have hXs:Hid ((⟨#[87]⟩ ++ ⟨#[b8 (48+e.p)]⟩ ++ ⟨#[32]⟩:ByteArray).size=3):=Lib.hid (by rw [← ba_len,hX3.out];rfl)
    clear k0
    go_wp2_with (first
     | (go_at_call 81;(with_reducible refine (HI.out _ (acc ++ t3 num ++ [32] ++ R ++ [32,86,32]) e.p hS4 k3 ?_).mono ?_);(· omega);rintro en w5 ⟨rfl,hS5⟩;obtain⟨v0,z0,z1,z2,z3,z4,z5,z6,z7⟩:=hcell.out _ _ hS5)
     | (go_at_call 48;(with_reducible refine (HT.out _ (acc ++ t3 num ++ [32] ++ R ++ [32,86,32]) (⟨#[87]⟩ ++ ⟨#[b8 (48+e.p)]⟩ ++ ⟨#[32]⟩) hS5 ?_).mono ?_);(· rw [hXs.out];(try simp only [List.length_append,List.length_cons,List.length_nil,t3_len,hlab.out]);omega);rintro en w6 ⟨rfl,hS6⟩;(rw [hX3.out] at hS6);obtain⟨v0,z0,z1,z2,z3,z4,z5,z6,z7⟩:=hcell.out _ _ hS6)
     | (go_at_call 79;(with_reducible refine (H3.out _ (acc ++ t3 num ++ [32] ++ R ++ [32,86,32] ++ [87,b8 (48+e.p),32]) e.fr hS6 ?_ ?_ ?_).mono ?_);(· omega);(· omega);(· (try simp only [List.length_append,List.length_cons,List.length_nil,t3_len,hlab.out]);omega);rintro en w7 ⟨rfl,hS7⟩))
    go_meet
    rw [hK]
    simpa only [List.append_assoc,List.cons_append,List.nil_append] using hS7
  case rest=>as_aux_lemma=>
   have hS5:=hcut
   obtain⟨x0,y0,y1,y2,y3,y4,y5,y6,y7⟩:=hcell.out _ _ hS5
   clear hcut
   obtain⟨A,hA⟩:∃ A,acc ++ t3 num ++ [32] ++ R ++ [32,86,32] ++ K=A:=⟨_,rfl⟩
   have hAl:A.length+200≤140737488355328:=by rw [← hA];(try simp only [List.length_append,List.length_cons,List.length_nil,t3_len,hlab.out]);omega
   rw [hA] at hS5
   replace hA:=Lib.hid hA
   go_wp2_with (first
    | (go_at_call 80;(with_reducible refine (HC.out _ A e.i hS5 ?_ ?_ ?_).mono ?_);(· omega);(· omega);(· (try simp only [List.length_append,List.length_cons,List.length_nil,t3_len,hlab.out]);omega);rintro en w6 ⟨rfl,hS6⟩;obtain⟨v0,z0,z1,z2,z3,z4,z5,z6,z7⟩:=hcell.out _ _ hS6)
    | (go_at_call 80;(with_reducible refine (HC.out _ (A ++ ([32] ++ labB e.i b d)) e.o hS6 ?_ ?_ ?_).mono ?_);(· omega);(· omega);(· (try simp only [List.length_append,List.length_cons,List.length_nil,t3_len,hlab.out]);omega);rintro en w7 ⟨rfl,hS7⟩;obtain⟨v0,z0,z1,z2,z3,z4,z5,z6,z7⟩:=hcell.out _ _ hS7)
    | (go_at_call 80;(with_reducible refine (HC.out _ (A ++ ([32] ++ labB e.i b d) ++ ([32] ++ labB e.o b d)) e.f hS7 ?_ ?_ ?_).mono ?_);(· omega);(· omega);(· (try simp only [List.length_append,List.length_cons,List.length_nil,t3_len,hlab.out]);omega);rintro en w8 ⟨rfl,hS8⟩;obtain⟨v0,z0,z1,z2,z3,z4,z5,z6,z7⟩:=hcell.out _ _ hS8)
    | (go_at_call 80;(with_reducible refine (HC.out _ (A ++ ([32] ++ labB e.i b d) ++ ([32] ++ labB e.o b d) ++ ([32] ++ labB e.f b d)) e.t hS8 ?_ ?_ ?_).mono ?_);(· omega);(· omega);(· (try simp only [List.length_append,List.length_cons,List.length_nil,t3_len,hlab.out]);omega);rintro en w9 ⟨rfl,hS9⟩)
    | (go_at_call 48;(with_reducible refine (HT.out _ (A ++ ([32] ++ labB e.i b d) ++ ([32] ++ labB e.o b d) ++ ([32] ++ labB e.f b d) ++ ([32] ++ labB e.t b d)) ⟨#[10]⟩ hS9 ?_).mono ?_);(· rw [show (⟨#[10]⟩:ByteArray).size=1 from rfl];(try simp only [List.length_append,List.length_cons,List.length_nil,t3_len,hlab.out]);omega);rintro en w10 ⟨rfl,hS10⟩))
   refine bodyPost_end (v:=.tuple #[]) ?_ ?_ ?_
   ·exact results_none rfl _ _ _
   ·rfl
   obtain⟨q1,q2⟩:=fin.out _ _ hS10 (by rw [← hA.out,hev.out];simp only [List.append_assoc,List.cons_append,List.nil_append])
   exact⟨rfl,q1,q2⟩
theorem wread_any (B:Nat) (b:Int) (d:Bool) (l:List UInt8) (w:World) (h:Wt w B b d l) (hl:l≠[]) :
  Calls Tryz.prog 50 #[.pointer (some ⟨B,0,none⟩)] w fun e w'=>e=.returned (.string ⟨l.toArray⟩)∧By (Wb w B) w w':=by
 obtain⟨p,v,h⟩:=h
 have hk:=ownF_kind h.own
 have hge:=ownF_ge h.own
 refine (str_any B 0 _ _ (B+1) p v l w h hl).mono ?_
 rintro e w' ⟨rfl,_,hy⟩
 exact⟨rfl,hy.mono (fun k _ hk2=>.inr ⟨by have:=hge k hk2;omega,hk k hk2⟩)⟩
structure Fs (w:World) (B:Nat) (b:Int) (d:Bool) (lv:List Value) (wx:World) (acc:List UInt8):Prop where
 gr:Gr w wx
 wt:Wt wx B b d acc
 c0:Cel wx w.heap.size lv
 c1:Cel wx (w.heap.size+1) [.string ⟨#[]⟩]
 c2:Cel wx (w.heap.size+2) [.int .i64 0]
theorem Fs.step {w:World} {B:Nat} {b:Int} {d:Bool} {lv:List Value} {wx wy:World} {acc acc':List UInt8} (h:Fs w B b d lv wx acc) (hB:w.heap.size+2<B) (hw:Wt wy B b d acc') (hy:By (Wb wx B) wx wy):Fs w B b d lv wy acc':=
 ⟨Wb.gr hy h.gr (by omega),hw,Wb.cel hy (by omega) h.c0,Wb.cel hy (by omega) h.c1,Wb.cel hy (by omega) h.c2⟩
theorem Fs.by {w:World} {B:Nat} {b:Int} {d:Bool} {lv:List Value} {wx wy:World} {acc:List UInt8} (h:Fs w B b d lv wx acc) (hg:Gr wx wy):Fs w B b d lv wy acc:=
 ⟨h.gr.trans hg,h.wt.gr hg,h.c0.gr hg,h.c1.gr hg,h.c2.gr hg⟩
theorem evL_size {b:Int} {d:Bool} {num:Int} {e:Ev} {n day:Int} (h:C19.okB b d=true) (hv:VE e n day):(evL b d num e).length≤100:=by
 have h1:=kd_size hv
 have h2:=reel_size hv
 unfold evL
 simp only [List.length_append,(labB_no h).2,List.length_cons,List.length_nil,t3_len]
 omega
def accB (l:El) (k:Nat):List UInt8:=flatL (ttlB l.title :: fcmB l.drop :: evLs l.base l.drop 1 (l.evs.take k))
theorem accB_succ {l:El} {k:Nat} (hk:k<l.evs.length):accB l (k+1)=accB l k ++ (evL l.base l.drop (k+1) l.evs[k] ++ [10]):=by
 unfold accB
 rw [List.take_succ_eq_append_getElem hk,evLs_append,List.length_take,Nat.min_eq_left (by omega)]
 simp only [flatL_cons,flatL_append,evLs,List.append_assoc]
 rw [show (1:Int)+(k:Int)=(k:Int)+1 by omega]
 simp [flatL]
theorem accB_all (l:El):accB l l.evs.length=fmtB l:=by unfold accB fmtB linesB;rw [List.take_length]
theorem accB_ne (l:El) (k:Nat):accB l k≠[]:=by unfold accB ttlB;simp [flatL]
theorem vLine_sz {s:ByteArray} (h:vLine s=true):1≤s.size∧s.size≤64:=by
 unfold vLine at h
 simp only [Bool.and_eq_true,decide_eq_true_eq] at h
 exact h.1
set_option maxRecDepth 20000 in
set_option maxHeartbeats 8000000 in
theorem eformat_yes (l:El) (v:Value) (w:World) (h:ElR w v l) (hv:vEl l=true) (hT:Pow w) :
  Calls Tryz.prog 25 #[l.val v] w fun e w'=>e=.returned (.tuple #[.string ⟨(fmtB l).toArray⟩,.int .i64 0])∧Gr w w':=by
 have hmf:=hmf_any Tryz.prog
 have HV:Hid (∀ w',Gr w w'→Calls Tryz.prog 14 #[l.val v] w' fun e w''=>e=.returned (.bool true)∧Gr w' w''):=fun w' hg=>by rw [← hv];exact evalid_any l v w' (h.gr hg)
 obtain⟨o1,o2,o3,o4⟩:=vEl_parts hv
 have hrow:=h.evs
 have hacc0:accB l 0=ttlB l.title ++ [10] ++ (fcmB l.drop ++ [10]):=by unfold accB;simp [flatL,evLs]
 have hsucc:∀ k (hk:k<l.evs.length),accB l (k+1)=accB l k ++ (evL l.base l.drop (k+1) l.evs[k] ++ [10]):=fun k hk=>accB_succ hk
 have hall:accB l l.evs.length=fmtB l:=accB_all l
 have hne:∀ k,accB l k≠[]:=accB_ne l
 have hts:l.title.size≤64:=(vLine_sz o2).2
 have htl:(ttlB l.title).length≤200:=by
  have:=(vLine_sz o2).2
  unfold ttlB
  rw [List.length_append,ba_len]
  simp only [List.length_cons,List.length_nil]
  omega
 generalize accB l=AC at *
 generalize fmtB l=FM at *
 obtain⟨title,base,drop,evs⟩:=l
 clear h hv o2
 unfold El.val at *
 simp only at *
 obtain⟨a,cap,rfl,ha⟩:=hrow.shape
 clear hrow
 have HE:Hid (∀ (B:Nat) w' acc (k:Nat) (hk:k<evs.length),Fs w B base drop [.string title,.int .i64 base,.bool drop,.slice a evs.length cap] w' acc→w.heap.size+2<B→acc.length≤1000000→Calls Tryz.prog 49 #[.pointer (some ⟨B,0,none⟩),.int .i64 ((k:Int)+1),evs[k].val] w' fun en w''=>en=.returned (.tuple #[])∧Fs w B base drop [.string title,.int .i64 base,.bool drop,.slice a evs.length cap] w'' (acc ++ (evL base drop (k+1) evs[k] ++ [10]))):=fun B w' acc k hk hs hB hl=>by
  obtain⟨m,hm0,hm⟩:=vEvs_at hk (Int.le_refl 0) o4
  refine (wevent_any w B base drop acc (k+1) evs[k] m w' hT hs.gr (by omega) hs.wt o1 hm0 hm (by omega) (by omega) (by omega)).mono ?_
  rintro en w'' ⟨rfl,h1,h2⟩
  exact⟨rfl,hs.step hB h1 h2⟩
 have HW:Hid (∀ (B:Nat) w' acc (s:ByteArray),Fs w B base drop [.string title,.int .i64 base,.bool drop,.slice a evs.length cap] w' acc→w.heap.size+2<B→acc.length+s.size≤1000000→Calls Tryz.prog 48 #[.pointer (some ⟨B,0,none⟩),.string s] w' fun en w''=>en=.returned (.tuple #[])∧Fs w B base drop [.string title,.int .i64 base,.bool drop,.slice a evs.length cap] w'' (acc ++ s.data.toList)):=fun B w' acc s hs hB hl=>(wtext_any B base drop acc s w' hs.wt (by omega)).mono fun en w'' ⟨h1,h2,h3⟩=>⟨h1,hs.step hB h2 h3⟩
 have HR:Hid (∀ (B:Nat) w' acc,Fs w B base drop [.string title,.int .i64 base,.bool drop,.slice a evs.length cap] w' acc→w.heap.size+2<B→acc≠[]→Calls Tryz.prog 50 #[.pointer (some ⟨B,0,none⟩)] w' fun e w''=>e=.returned (.string ⟨acc.toArray⟩)∧Gr w w''∧Cel w'' (w.heap.size+1) [.string ⟨#[]⟩]∧Cel w'' (w.heap.size+2) [.int .i64 0]):=fun B w' acc hs hB hl=>(wread_any B base drop acc w' hs.wt hl).mono fun e w'' ⟨h1,h2⟩=>⟨h1,Wb.gr h2 hs.gr (by omega),Wb.cel h2 (by omega) hs.c1,Wb.cel h2 (by omega) hs.c2⟩
 have fin:∀ w1:World,Gr (((w.alloc (.cells #[.string title,.int .i64 base,.bool drop,.slice a evs.length cap] 25)).alloc (.cells #[.string ⟨#[]⟩] 9)).alloc (.cells #[.int .i64 0] 29)) w1→w.heap.size+2<w1.heap.size∧Gr w w1∧Cel w1 w.heap.size [.string title,.int .i64 base,.bool drop,.slice a evs.length cap]∧Cel w1 (w.heap.size+1) [.string ⟨#[]⟩]∧Cel w1 (w.heap.size+2) [.int .i64 0]:=by
  intro w1 hg1
  have k0:=((Cel.new w #[.string title,.int .i64 base,.bool drop,.slice a evs.length cap] 25).alloc (.cells #[.string ⟨#[]⟩] 9)).alloc (.cells #[.int .i64 0] 29) |>.gr hg1
  have k1:=(Cel.new (w.alloc (.cells #[.string title,.int .i64 base,.bool drop,.slice a evs.length cap] 25)) #[.string ⟨#[]⟩] 9).alloc (.cells #[.int .i64 0] 29) |>.gr hg1
  have k2:=(Cel.new ((w.alloc (.cells #[.string title,.int .i64 base,.bool drop,.slice a evs.length cap] 25)).alloc (.cells #[.string ⟨#[]⟩] 9)) #[.int .i64 0] 29).gr hg1
  have hz:=hg1.size
  simp at k0 k1 k2 hz
  exact⟨by omega,((((Gr.refl w).alloc _).alloc _).alloc _).trans hg1,k0,k1,k2⟩
 have fin:=Lib.hid fin
 have hnew:Hid (∀ w1:World,w.heap.size+2<w1.heap.size→Gr w w1→Cel w1 w.heap.size [.string title,.int .i64 base,.bool drop,.slice a evs.length cap]→Cel w1 (w.heap.size+1) [.string ⟨#[]⟩]→Cel w1 (w.heap.size+2) [.int .i64 0]→Fs w w1.heap.size base drop [.string title,.int .i64 base,.bool drop,.slice a evs.length cap] (w1.alloc (.cells #[.pointer none,.slice none 0 0,.int .i64 base,.bool drop,.int .i64 0] 118)) []):=fun w1 h1 h2 h3 h4 h5=>by
  have hg:=(Gr.refl w1).alloc (.cells #[.pointer none,.slice none 0 0,.int .i64 base,.bool drop,.int .i64 0] 118)
  exact⟨h2.trans hg,Wt.new w1 base drop,h3.gr hg,h4.gr hg,h5.gr hg⟩
 have hcel:Hid (∀ B w' acc,Fs w B base drop [.string title,.int .i64 base,.bool drop,.slice a evs.length cap] w' acc→B<w'.heap.size∧w.heap.size<w'.heap.size∧w'.cell? ⟨w.heap.size,0,none⟩=some (.string title)∧w'.cell? ⟨w.heap.size,1,none⟩=some (.int .i64 base)∧w'.cell? ⟨w.heap.size,2,none⟩=some (.bool drop)∧w'.cell? ⟨w.heap.size,3,none⟩=some (.slice a evs.length cap)):=fun B w' acc hs=>⟨hs.wt.lt,hs.c0.lt,(hs.c0.2 0 _ rfl).1,(hs.c0.2 1 _ rfl).1,(hs.c0.2 2 _ rfl).1,(hs.c0.2 3 _ rfl).1⟩
 have hTT:Hid ((⟨#[84,73,84,76,69,58,32]⟩ ++ title ++ ⟨#[10]⟩:ByteArray).data.toList=ttlB title ++ [10]):=Lib.hid (by unfold ttlB;simp)
 have hTs:Hid ((⟨#[84,73,84,76,69,58,32]⟩ ++ title ++ ⟨#[10]⟩:ByteArray).size≤300):=Lib.hid (by rw [← ba_len,hTT.out,List.length_append];simp only [List.length_cons,List.length_nil];omega)
 have hT:=Lib.hid hT
 have ha:=Lib.hid ha
 have htl:=Lib.hid htl
 have hacc0:=Lib.hid hacc0
 have hsucc:=Lib.hid hsucc
 have hall:=Lib.hid hall
 have hne:=Lib.hid hne
 have hesz:Hid (∀ k (hk:k<evs.length),(evL base drop (k+1) evs[k]).length≤100):=fun k hk=>by
  obtain⟨m,_,hm⟩:=vEvs_at hk (Int.le_refl 0) o4
  exact evL_size o1 hm
 clear o1 o4
 go_enter_defers Tryz.func25,Tryz.ntmps25
 go_upto_if 24 with (first
  | (go_at_call 14;(with_reducible refine (HV.out _ ?_).mono ?_);(· exact (by repeat (first | with_reducible exact Gr.refl _ | with_reducible assumption | refine Gr.setCell ?_ (by first | omega | (simp;done) | (simp;omega)) _ | refine Gr.alloc ?_ _ | refine Gr.drew ?_ | refine Gr.drewN ?_ _ | refine Gr.trans ?_ (by with_reducible assumption))));rintro e w1 ⟨rfl,hg1⟩;obtain⟨hBl,hgw1,k0,k1,k2⟩:=fin.out _ hg1;have hF1:=hnew.out _ hBl hgw1 k0 k1 k2;obtain⟨hx0,hx,g0,g1,g2,g3⟩:=hcel.out _ _ _ hF1;have m0:=(k0.2 1 _ rfl).1;have m1:=(k0.2 2 _ rfl).1;have m2:=k0.lt)
  | (go_at_call 48;(with_reducible refine (HW.out w1.heap.size _ [] (⟨#[84,73,84,76,69,58,32]⟩ ++ title ++ ⟨#[10]⟩) hF1 hBl ?_).mono ?_);(· have h9:=hTs.out;simp only [List.length_nil];omega);rintro en w2 ⟨rfl,hF2⟩;(rw [hTT.out,List.nil_append] at hF2);obtain⟨hy0,hy,e0,e1,e2,e3⟩:=hcel.out _ _ _ hF2))
 generalize w1.heap.size=B at *
 clear hF1 hx0 hx g0 g1 g2 g3 m0 m1 m2 hg1 hgw1 k0 k1 k2 fin hnew HV
 go_cut [26] from 25 to 28 (fun _ wx=>Fs w B base drop [.string title,.int .i64 base,.bool drop,.slice a evs.length cap] wx (AC 0))
 case first=>as_aux_lemma=>
  cases drop
  ·go_wp2_with (go_at_call 48;(with_reducible refine (HW.out B _ (ttlB title ++ [10]) ⟨#[70,67,77,58,32,78,79,78,45,68,82,79,80,32,70,82,65,77,69,10]⟩ hF2 hBl ?_).mono ?_);(· have h9:=htl.out;rw [show (⟨#[70,67,77,58,32,78,79,78,45,68,82,79,80,32,70,82,65,77,69,10]⟩:ByteArray).size=20 from rfl,List.length_append];simp;omega);rintro en w3 ⟨rfl,hF3⟩)
   go_meet
   rw [hacc0.out]
   exact hF3
  ·go_wp2_with (go_at_call 48;(with_reducible refine (HW.out B _ (ttlB title ++ [10]) ⟨#[70,67,77,58,32,68,82,79,80,32,70,82,65,77,69,10]⟩ hF2 hBl ?_).mono ?_);(· have h9:=htl.out;rw [show (⟨#[70,67,77,58,32,68,82,79,80,32,70,82,65,77,69,10]⟩:ByteArray).size=16 from rfl,List.length_append];simp;omega);rintro en w3 ⟨rfl,hF3⟩)
   go_meet
   rw [hacc0.out]
   exact hF3
 case rest=>as_aux_lemma=>
  have hl0:(AC 0).length≤300:=by
   rw [hacc0.out]
   have h9:=htl.out
   simp only [List.length_append,List.length_cons,List.length_nil]
   unfold fcmB
   split <;> simp <;> omega
  obtain⟨hz0,hz,f0,f1,f2,f3⟩:=hcel.out _ _ _ hcut
  clear hF2 hy0 hy e0 e1 e2 e3
  go_upto_region 10 with fail
  clear hz0 hz f0 f1 f2 f3
  go_loopw [32] (fun i wr=>∃ k:Nat,k≤evs.length∧i=.int .i64 k∧Fs w B base drop [.string title,.int .i64 base,.bool drop,.slice a evs.length cap] wr (AC k)∧(AC k).length≤300+200 * k) (fun i _=>evs.length - (RowKit.intOf i).toNat)
  case atStart=>exact⟨0,Nat.zero_le _,rfl,hcut,by omega⟩
  case round=>
   obtain⟨k,hk,rfl,hF,hln⟩:=hrel
   clear hcut
   by_cases c1:k<evs.length
   ·have q6:decide (k<evs.length)=true:=decide_eq_true c1
    rcases ha.out with ha2 | ⟨bb,oo,rfl,hb,hc⟩
    ·omega
    have hx1:bb<wr.heap.size:=Nat.lt_of_lt_of_le hb hF.gr.size
    obtain⟨e0,e1,e2,e3,e4,e5,e6,e7⟩:=ev_cells c1 hb hF.gr hc
    have HEj:=fun w' hs=>HE.out B w' (AC k) k c1 hs hBl (by omega)
    have hsk:=hsucc.out k c1
    have hes:=hesz.out k c1
    generalize evs[k]=c at e0 e1 e2 e3 e4 e5 e6 e7 HEj hsk hes
    clear hc
    unfold Ev.val at HEj
    have HEj:=Lib.hid HEj
    have hsk:=Lib.hid hsk
    have hbox:=Cel.new wr #[.int .i64 c.k,.int .i64 c.p,.int .i64 c.fr,.string c.reel,.int .i64 c.i,.int .i64 c.o,.int .i64 c.f,.int .i64 c.t] 38
    have hgb:Gr wr (wr.alloc (.cells #[.int .i64 c.k,.int .i64 c.p,.int .i64 c.fr,.string c.reel,.int .i64 c.i,.int .i64 c.o,.int .i64 c.f,.int .i64 c.t] 38)):=(Gr.refl wr).alloc _
    go_wp2_with (go_at_call 49;(with_reducible refine (HEj.out _ ?_).mono ?_);(· exact hF.by hgb);rintro en w4 ⟨rfl,hF4⟩)
    go_roundw
    case rel=>exact⟨k+1,by omega,by go_num,by rw [hsk.out];exact hF4,by rw [hsk.out];simp only [List.length_append,List.length_cons,List.length_nil];omega⟩
    case measure=>simp [RowKit.intOf];omega
   ·have q6:decide (k<evs.length)=false:=decide_eq_false c1
    obtain rfl:k=evs.length:=by omega
    have HRk:=HR.out B wr _ hF hBl (hne.out _)
    rw [hall.out] at HRk
    have HRk:=Lib.hid HRk
    have hx:=hF.wt.lt
    obtain⟨_,_,d4,_⟩:=hF.wt.cells
    go_wp2_with (go_at_call 50;(with_reducible refine HRk.out.mono ?_);rintro e w7 ⟨rfl,hg7,ks1,ks2⟩;obtain⟨u1,u2⟩:=ks1.one;obtain⟨u3,u4⟩:=ks2.one;have u5:=ks2.lt)
    refine leaves_cons (f:=47) (args:=#[.pointer (some ⟨w.heap.size+1,0,none⟩),.pointer (some ⟨w.heap.size+1+1,0,none⟩)]) (by simp) (by simp [go_sem]) ?_
    refine (formatD_idle _ _ _).mono ?_
    rintro e u' w'' ⟨rfl,rfl,rfl⟩
    simp [Leaves,settle,results,Tryz.results25,go_sem,u1,u3]
    exact (by repeat (first | with_reducible exact Gr.refl _ | with_reducible assumption | refine Gr.setCell ?_ (by first | omega | (simp;done) | (simp;omega)) _ | refine Gr.alloc ?_ _ | refine Gr.drew ?_ | refine Gr.drewN ?_ _ | refine Gr.trans ?_ (by with_reducible assumption)))
end Go.Proofs.YtnginfangeikpaaGreatDoor
