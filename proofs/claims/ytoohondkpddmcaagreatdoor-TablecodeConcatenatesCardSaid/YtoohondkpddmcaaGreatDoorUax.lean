/- Lo Ly Lq Lr -/
import Derived.Test.YtoohondkpddmcaaGreatDoorUzz
import Derived.Test.YtoohondkpddmcaaGreatDoorUap
import Derived.Test.YtoohondkpddmcaaGreatDoorUaw
import Derived.Test.YtoohondkpddmcaaGreatDoorUar
namespace Go.Proofs.YtoohondkpddmcaaGreatDoor
set_option maxHeartbeats 32000000
set_option linter.unusedVariables false
set_option linter.unusedSimpArgs false
section
open Go.RowKit
attribute [local go_sem] ByteArray.mk_append_mk Qac Qad Qae
theorem Qnl {x:Nat} {v:Int} (h:opB x=v) (hv:v≠0):Ending.returned (.tuple #[.int .i64 v,.bool true]) = .returned (.tuple #[.int .i64 (opB x),.bool (opB x != 0)]):=by
 rw [h,show (v != 0)=true from bne_iff_ne.2 hv]
theorem Qj6 {x:Nat} (h:opB x=0):Ending.returned (.tuple #[.int .i64 0,.bool false]) = .returned (.tuple #[.int .i64 (opB x),.bool (opB x != 0)]):=by
 rw [h];rfl
set_option maxRecDepth 100000 in
theorem Qvi (x:Nat) (hx:x<256) (w:World):Calls Tryz.prog 147 #[.int .u8 x] w fun e w'=>e = .returned (.tuple #[.int .i64 (opB x),.bool (opB x != 0)])/\w=w':=by
 have hx':(x:Int)<256:=by omega
 by_cases h48:x=48
 ·subst h48;go_enter Tryz.func147,Tryz.ntmps147;go_wp2_with fail;go_ret2;exact ⟨rfl,rfl⟩
 by_cases h49:x=49
 ·subst h49;go_enter Tryz.func147,Tryz.ntmps147;go_wp2_with fail;go_ret2;exact ⟨rfl,rfl⟩
 by_cases h63:x=63
 ·subst h63;go_enter Tryz.func147,Tryz.ntmps147;go_wp2_with fail;go_ret2;exact ⟨rfl,rfl⟩
 by_cases h96:x=96
 ·subst h96;go_enter Tryz.func147,Tryz.ntmps147;go_wp2_with fail;go_ret2;exact ⟨rfl,rfl⟩
 by_cases h104:x=104
 ·subst h104;go_enter Tryz.func147,Tryz.ntmps147;go_wp2_with fail;go_ret2;exact ⟨rfl,rfl⟩
 have b48:((x:Int)==48)=false:=Zd (by omega);have b49:((x:Int)==49)=false:=Zd (by omega);have b63:((x:Int)==63)=false:=Zd (by omega);have b96:((x:Int)==96)=false:=Zd (by omega);have b104:((x:Int)==104)=false:=Zd (by omega);by_cases r16:16<=x/\x<=27
 ·have g1:(x:Int)>=16:=by omega
  have g2:(x:Int)<=27:=by omega
  go_enter Tryz.func147,Tryz.ntmps147;go_wp2_with fail
  all_goals first
   | (exfalso;omega)
   | (go_ret2
      exact ⟨Qnl (by (unfold opB;repeat' split)<;>omega) (by omega),rfl⟩)
   | (go_ret2
      exact ⟨Qj6 (by (unfold opB;repeat' split)<;>omega),rfl⟩)
 by_cases r112:112<=x/\x<=124
 ·have g1:(x:Int)>=112:=by omega
  have g2:(x:Int)<=124:=by omega
  go_enter Tryz.func147,Tryz.ntmps147;go_wp2_with fail
  all_goals first
   | (exfalso;omega)
   | (go_ret2
      exact ⟨Qnl (by (unfold opB;repeat' split)<;>omega) (by omega),rfl⟩)
   | (go_ret2
      exact ⟨Qj6 (by (unfold opB;repeat' split)<;>omega),rfl⟩)
 by_cases r128:128<=x/\x<=156
 ·have g1:(x:Int)>=128:=by omega
  have g2:(x:Int)<=156:=by omega
  go_enter Tryz.func147,Tryz.ntmps147;go_wp2_with fail
  all_goals first
   | (exfalso;omega)
   | (go_ret2
      exact ⟨Qnl (by (unfold opB;repeat' split)<;>omega) (by omega),rfl⟩)
   | (go_ret2
      exact ⟨Qj6 (by (unfold opB;repeat' split)<;>omega),rfl⟩)
 ·have n1:¬ (16<=(x:Int)/\(x:Int)<=27):=by omega
  go_enter Tryz.func147,Tryz.ntmps147;go_wp2_with fail
  all_goals first
   | (exfalso;omega)
   | (go_ret2
      exact ⟨Qnl (by (unfold opB;repeat' split)<;>omega) (by omega),rfl⟩)
   | (go_ret2
      exact ⟨Qj6 (by (unfold opB;repeat' split)<;>omega),rfl⟩)
theorem Qww (x:Nat) (hx:x<256) (v:Int) (b:Bool) (h:Hid (opB x=v)) (k:Hid ((v != 0)=b)) (w:World):Calls Tryz.prog 147 #[.int .u8 x] w fun e w'=>e = .returned (.tuple #[.int .i64 v,.bool b])/\w=w':=by
 have:=Qvi x hx w;rw [h.out,k.out] at this;exact this
def opX (x:Nat):Int :=
 if x=0\/x=1\/x=255\/x=10\/x=11\/x=12\/x=14 then 1
 else if x=13 then 2
 else if (65<=x/\x<=90)\/x=95\/x=92\/x=94\/x=46\/x=47 then 3
 else if 96<=x/\x<104 then 6
 else if 104<=x/\x<111 then 7
 else opB x
set_option maxRecDepth 100000 in
theorem QpW (c:UInt8) (w:World):Calls Tryz.prog 101 #[.int .u8 c.toNat] w fun e w'=>e = .returned (.int .i64 (QaW c))/\w=w':=by
 have hx:=c.toNat_lt;have HO:Hid (QaW c=opX c.toNat):=Za rfl;rw [HO.out];generalize c.toNat=x at hx |-;have hx':(x:Int)<256:=by omega
 by_cases h0:x=0
 ·subst h0;go_enter Tryz.func101,Tryz.ntmps101;go_wp2_with fail;go_ret;exact ⟨rfl,rfl⟩
 by_cases h1:x=1
 ·subst h1;go_enter Tryz.func101,Tryz.ntmps101;go_wp2_with fail;go_ret;exact ⟨rfl,rfl⟩
 by_cases h255:x=255
 ·subst h255;go_enter Tryz.func101,Tryz.ntmps101;go_wp2_with fail;go_ret;exact ⟨rfl,rfl⟩
 by_cases h10:x=10
 ·subst h10;go_enter Tryz.func101,Tryz.ntmps101;go_wp2_with fail;go_ret;exact ⟨rfl,rfl⟩
 by_cases h11:x=11
 ·subst h11;go_enter Tryz.func101,Tryz.ntmps101;go_wp2_with fail;go_ret;exact ⟨rfl,rfl⟩
 by_cases h12:x=12
 ·subst h12;go_enter Tryz.func101,Tryz.ntmps101;go_wp2_with fail;go_ret;exact ⟨rfl,rfl⟩
 by_cases h14:x=14
 ·subst h14;go_enter Tryz.func101,Tryz.ntmps101;go_wp2_with fail;go_ret;exact ⟨rfl,rfl⟩
 by_cases h13:x=13
 ·subst h13;go_enter Tryz.func101,Tryz.ntmps101;go_wp2_with fail;go_ret;exact ⟨rfl,rfl⟩
 by_cases h95:x=95
 ·subst h95;go_enter Tryz.func101,Tryz.ntmps101;go_wp2_with fail;go_ret;exact ⟨rfl,rfl⟩
 by_cases h92:x=92
 ·subst h92;go_enter Tryz.func101,Tryz.ntmps101;go_wp2_with fail;go_ret;exact ⟨rfl,rfl⟩
 by_cases h94:x=94
 ·subst h94;go_enter Tryz.func101,Tryz.ntmps101;go_wp2_with fail;go_ret;exact ⟨rfl,rfl⟩
 by_cases h46:x=46
 ·subst h46;go_enter Tryz.func101,Tryz.ntmps101;go_wp2_with fail;go_ret;exact ⟨rfl,rfl⟩
 by_cases h47:x=47
 ·subst h47;go_enter Tryz.func101,Tryz.ntmps101;go_wp2_with fail;go_ret;exact ⟨rfl,rfl⟩
 have b0:((x:Int)==0)=false:=Zd (by omega);have b1:((x:Int)==1)=false:=Zd (by omega);have b255:((x:Int)==255)=false:=Zd (by omega);have b10:((x:Int)==10)=false:=Zd (by omega);have b11:((x:Int)==11)=false:=Zd (by omega);have b12:((x:Int)==12)=false:=Zd (by omega);have b14:((x:Int)==14)=false:=Zd (by omega);have b13:((x:Int)==13)=false:=Zd (by omega);have b95:((x:Int)==95)=false:=Zd (by omega);have b92:((x:Int)==92)=false:=Zd (by omega);have b94:((x:Int)==94)=false:=Zd (by omega);have b46:((x:Int)==46)=false:=Zd (by omega);have b47:((x:Int)==47)=false:=Zd (by omega);by_cases r65:65<=x/\x<=90
 ·have g1:(x:Int)>=65:=by omega
  have g2:(x:Int)<=90:=by omega
  have HE:Hid (opX x=3):=Za (by (unfold opX;repeat' split)<;>omega);rw [HE.out];go_enter Tryz.func101,Tryz.ntmps101;go_wp2_with fail
  all_goals first
   | (exfalso;omega)
   | (go_ret
      exact ⟨rfl,rfl⟩)
 by_cases r96:96<=x/\x<=103
 ·have g1:(x:Int)>=96:=by omega
  have g2:(x:Int)<=103:=by omega
  have HE:Hid (opX x=6):=Za (by (unfold opX;repeat' split)<;>omega);rw [HE.out];go_enter Tryz.func101,Tryz.ntmps101;go_wp2_with fail
  all_goals first
   | (exfalso;omega)
   | (go_ret
      exact ⟨rfl,rfl⟩)
 by_cases r104:104<=x/\x<=110
 ·have g1:(x:Int)>=104:=by omega
  have g2:(x:Int)<=110:=by omega
  have HE:Hid (opX x=7):=Za (by (unfold opX;repeat' split)<;>omega);rw [HE.out];go_enter Tryz.func101,Tryz.ntmps101;go_wp2_with fail
  all_goals first
   | (exfalso;omega)
   | (go_ret
      exact ⟨rfl,rfl⟩)
 have HE:Hid (opX x=opB x):=Za (by (unfold opX;repeat' split)<;>first|rfl|omega);rw [HE.out];obtain ⟨v,hv⟩:∃ v,Hid (opB x=v):=⟨_,Za rfl⟩;obtain ⟨b,hb⟩:∃ b,Hid ((v != 0)=b):=⟨_,Za rfl⟩;have HC:=Za (Qww x hx v b hv hb);rw [hv.out];have n1:¬ (65<=(x:Int)/\(x:Int)<=90):=by omega
 have n2:¬ (96<=(x:Int)/\(x:Int)<104):=by omega
 have n3:¬ (104<=(x:Int)/\(x:Int)<111):=by omega
 go_enter Tryz.func101,Tryz.ntmps101;go_wp2_with (go_at_call 147;((with_reducible refine (HC.out _).mono ?_));rintro e w1 ⟨rfl,rfl⟩)
 all_goals first
  | (exfalso;omega)
  | (go_ret
     exact ⟨rfl,rfl⟩)
theorem Qdn (c:UInt8) (v:Int) (h:Hid (QaW c=v)) (w:World):Calls Tryz.prog 101 #[.int .u8 c.toNat] w fun e w'=>e = .returned (.int .i64 v)/\w=w':=by
 have:=QpW c w;rw [h.out] at this;exact this
def Qqw:List Int:=[1,2,3,5,6,7,30,31,32,33,34,35,36,37,38,39,40,41,42,60,61,62,63,64,65,66,67,68,69,70,71,72,73,74,75,76,77,78,79,80,81,82,83,84,85,86,87,88]
set_option maxRecDepth 100000 in
theorem QlP (op:Int) (h:op∈Qqw) (h31:op≠31) (w:World):Calls Tryz.prog 208 #[.int .i64 op] w fun e w'=>e = .returned (.string ⟨(QaE op).2.toArray⟩)/\w=w':=by
 simp only [Qqw,List.mem_cons,List.not_mem_nil,or_false] at h;rcases h with rfl|rfl|rfl|rfl|rfl|rfl|rfl|rfl|rfl|rfl|rfl|rfl|rfl|rfl|rfl|rfl|rfl|rfl|rfl|rfl|rfl|rfl|rfl|rfl|rfl|rfl|rfl|rfl|rfl|rfl|rfl|rfl|rfl|rfl|rfl|rfl|rfl|rfl|rfl|rfl|rfl|rfl|rfl|rfl|rfl|rfl|rfl|rfl
 all_goals first
  | (exact absurd rfl h31)
  | (clear h31
     go_enter Tryz.func208,Tryz.ntmps208;go_wp2_with fail;go_ret;exact ⟨rfl,rfl⟩)
theorem Qtx:∀ op∈Qej,op∈Qqw\/op=10\/op=11\/op=12\/op=13\/op=14\/op=15\/op=16\/op=17\/op=18\/op=19\/op=20\/op=21\/op=50\/op=51:=by decide +kernel
theorem Qwx:∀ op∈Qqw,op≠10/\op≠11/\op≠12/\op≠13/\op≠14/\op≠15/\op≠16/\op≠17/\op≠18/\op≠19/\op≠20/\op≠21/\op≠50/\op≠51:=by decide +kernel
set_option maxRecDepth 100000 in
theorem Qld (op:Int) (h:op∈Qej) (h31:op≠31) (w:World):Calls Tryz.prog 156 #[.int .i64 op] w fun e w'=>e = .returned (.string ⟨(QaE op).2.toArray⟩)/\w=w':=by
 rcases Qtx op h with hs|rfl|rfl|rfl|rfl|rfl|rfl|rfl|rfl|rfl|rfl|rfl|rfl|rfl|rfl
 ·obtain ⟨n10,n11,n12,n13,n14,n15,n16,n17,n18,n19,n20,n21,n50,n51⟩:=Qwx op hs;have HC:=Za (QlP op hs h31 w);have HK:Hid (∀ q:Int,op≠q->(op==q)=false):=Za (fun q hq=>Zd hq);have b10:=HK.out 10 n10;have b11:=HK.out 11 n11;have b12:=HK.out 12 n12;have b13:=HK.out 13 n13;have b14:=HK.out 14 n14;have b15:=HK.out 15 n15;have b16:=HK.out 16 n16;have b17:=HK.out 17 n17;have b18:=HK.out 18 n18;have b19:=HK.out 19 n19;have b20:=HK.out 20 n20;have b21:=HK.out 21 n21;have b50:=HK.out 50 n50;have b51:=HK.out 51 n51;clear h h31 hs n10 n11 n12 n13 n14 n15 n16 n17 n18 n19 n20 n21 n50 n51;go_enter Tryz.func156,Tryz.ntmps156;go_wp2_with fail;((with_reducible refine HC.out.mono ?_));rintro e w1 ⟨rfl,rfl⟩;go_wp2_with fail;go_ret;exact ⟨rfl,rfl⟩
 all_goals
  clear h31;go_enter Tryz.func156,Tryz.ntmps156;go_wp2_with fail;go_ret;exact ⟨rfl,rfl⟩
end
section
open Go.RowKit
attribute [local go_sem] ByteArray.mk_append_mk Qac Qad Qae
end
section
open Go.RowKit
attribute [local go_sem] ByteArray.mk_append_mk Qac Qad Qae SameB.some SameB.all
theorem TSt.grown {B b:Nat} {w w':World} {s:List UInt8} {pos e bl:Nat} {o o':List Nd} {nv u:Value} (h:TSt B b w s pos e bl o) (hb:w.heap[b]?=some (tdO s pos e bl nv 0)) (hn:NodesI w B nv o) (hg:w.grownBy w' nv.ownBlock) (hu:NodesI w' B u o') :
  TSt B b (w'.setCell ⟨b,4,none⟩ u) s pos e bl o'/\Below B w (w'.setCell ⟨b,4,none⟩ u):=by
 have hB:Below B w w':=Zb.grown hg h.size (fun k hk=>Qap hn hk);have h1:w'.heap[b]?=some (tdO s pos e bl nv 0):=(hg.block b (lt_of_block hb) (fun e=>QcQ hn hb e.symm)).trans hb;have hB2:Below B w' (w'.setCell ⟨b,4,none⟩ u):=Zb.setCell h.base _;exact ⟨⟨⟨u,heap_setCell_same _ _ 4 _ _ _ h1,Qa6 hu _ _ (QcQ hu h1)⟩,h.base,Nat.le_trans h.size (hB.trans hB2).size⟩,hB.trans hB2⟩
set_option maxRecDepth 100000 in
theorem QcH (B b:Nat) (k n p:Int) (x:List UInt8) (w:World) (s:List UInt8) (pos e bl:Nat) (o:List Nd) (h:TSt B b w s pos e bl o) (hl:o.length<=900000) :
  Calls Tryz.prog 106 #[.pointer (some ⟨b,0,none⟩),QbB k n x p] w fun en w'=>en = .returned (.int .i64 o.length)/\TSt B b w' s pos e bl (o++[⟨k,n,x,p⟩])/\Below B w w':=by
 have H0:=Za (h.alloc (Qaj k n x p));have HN0:=Za (heap_alloc_new w (Qaj k n x p));have HB0:Hid (Below B w (w.alloc (Qaj k n x p))):=Za (Zb.alloc h.size _);obtain ⟨nv,h1,h3⟩:=h.ex;obtain ⟨na,nc,rfl⟩:=h3.form;have hal:Below w.heap.size w (w.alloc (Qaj k n x p)):=Zb.alloc Zc _;have HP1:=Za (Qab h1 hal);have HO1:=Za (h3.below hal);have HNE:Hid (∀ g,(Value.slice na o.length nc).ownBlock=some g->g<w.heap.size):=Za (fun g hg=>QhG h3 hg);clear h h1 h3 hal;unfold QbB;go_enter Tryz.func106,Tryz.ntmps106;go_upto_region 1 with fail;obtain ⟨P,hP⟩:∃ P,w.heap.size=P:=⟨_,rfl⟩;rw [hP] at HN0 HNE;simp only [hP];generalize w.alloc (Qaj k n x p)=W at *;have k0:∀ y,SameB W b P y->y.cell? ⟨b,4,none⟩=some (.slice na o.length nc):=fun y hy=>(Qa8 (hy.1.trans HP1.out)).2.2.2.2.1;have q0:∀ y,SameB W b P y->y.cell? ⟨P,0,none⟩=some (.int .i64 k):=fun y hy=>(Qaa (hy.2.trans HN0.out)).1;have q1:∀ y,SameB W b P y->y.cell? ⟨P,1,none⟩=some (.int .u64 n):=fun y hy=>(Qaa (hy.2.trans HN0.out)).2.1;have q2:∀ y,SameB W b P y->y.cell? ⟨P,2,none⟩=some (.string ⟨x.toArray⟩):=fun y hy=>(Qaa (hy.2.trans HN0.out)).2.2.1;have q3:∀ y,SameB W b P y->y.cell? ⟨P,3,none⟩=some (.int .i64 p):=fun y hy=>(Qaa (hy.2.trans HN0.out)).2.2.2;have HPL:Hid (P<W.heap.size):=Za (lt_of_block HN0.out);have HBL:Hid (b<W.heap.size):=Za (lt_of_block HP1.out);clear hP;refine QaI (SameB W b P) 8 [.reads [0,1,2,3,4,5],.act 6,.act 7,.act 8,.act 9,.act 10] (by kernel_rfl) (by kernel_rfl) (by kernel_rfl) (by kernel_rfl) (by kernel_rfl) (fun _ _ d _ _ h=>by cases d<;>exact h) ⟨rfl,rfl⟩ ?_;refine Qas ?_;simp only [Qaf,pQ1,pQ2,pQ3,pQ4,pQ5,pQ6]
 repeat (go_big_quiet_step (first|(intro hb;rw [k0 _ hb];exact ⟨rfl,rfl⟩)|(intro hb;rw [q0 _ hb];simp only [Result.andThen];rw [q1 _ hb];simp only;rw [q2 _ hb];simp only;rw [q3 _ hb];exact ⟨rfl,rfl⟩)))
 refine wpQuiet_nil ?_;refine Qai rfl ?_;simp only [Qaf,pQ1,pQ2,pQ3,pQ4,pQ5,pQ6];go_wp2_with fail;have hg1:Grows W (W.alloc (Qaj k n x p)).drew:=Below.drew (Zb.alloc Zc _);have H1:=Za (H0.out.below hg1);have HP2:=Za (Qab HP1.out hg1);have HPP:=Za (Qab HN0.out hg1);have HO2:=Za (HO1.out.below hg1);have HNN:Hid ((W.alloc (Qaj k n x p)).drew.heap[W.heap.size]?=some (Qaj k n x p)):=Za (heap_alloc_new W _);have HB2:Hid (Below B w (W.alloc (Qaj k n x p)).drew):=Za (HB0.out.trans (hg1.mono H0.out.size));refine ⟨fun _=>⟨hg1.block b HBL.out,hg1.block P HPL.out⟩,?_⟩;have HS2:Hid (SameB W b P (W.alloc (Qaj k n x p)).drew):=Za ⟨hg1.block b HBL.out,hg1.block P HPL.out⟩;generalize (W.alloc (Qaj k n x p)).drew=V at *;clear hg1 H0 HN0 HP1 HO1 HB0 k0 q0 q1 q2 q3;refine Qai rfl ?_;simp only [Qaf,pQ1,pQ2,pQ3,pQ4,pQ5,pQ6];go_wp2_with (at_builtin;refine Qb7 rfl _ _ rfl B _ o rfl HO2.out W.heap.size ⟨k,n,x,p⟩ rfl HNN.out (by omega) H1.out.size ?_;intro v2 w2 ho hg;obtain ⟨a2,c2,rfl⟩:=NodesI.form ho;have HO3:=Za ho;have HG3:=Za hg;clear ho hg);refine ⟨fun _=>⟨(HG3.out.block b (lt_of_block HP2.out) (fun e=>QcQ HO2.out HP2.out e.symm)).trans HS2.out.1,(HG3.out.block P (lt_of_block HPP.out) (fun e=>absurd (HNE.out P e.symm) (Nat.lt_irrefl _))).trans HS2.out.2⟩,?_⟩;refine Qai rfl ?_;simp only [Qaf,pQ1,pQ2,pQ3,pQ4,pQ5,pQ6];go_wp2_with fail;refine ⟨fun h=>absurd h (by decide),?_⟩;refine Qai rfl ?_;simp only [Qaf,pQ1,pQ2,pQ3,pQ4,pQ5,pQ6];go_wp2_with fail;refine ⟨fun h=>absurd h (by decide),?_⟩;refine Qai rfl ?_;simp only [Qaf,pQ1,pQ2,pQ3,pQ4,pQ5,pQ6];have hb3:=(HG3.out.block b (lt_of_block HP2.out) (fun e=>QcQ HO2.out HP2.out e.symm)).trans HP2.out;have f3:=Qay hb3 4;have c3:=(Qa8 hb3).2.2.2.2.1;clear hb3;go_wp2_with fail;refine ⟨fun h=>absurd h (by decide),Qbb ?_⟩;obtain ⟨hr,hlw⟩:=H1.out.grown HP2.out HO2.out HG3.out HO3.out;have HR:=Za hr;have HL:=Za hlw;have hb9:=(HG3.out.block b (lt_of_block HP2.out) (fun e=>QcQ HO2.out HP2.out e.symm)).trans HP2.out;have c9:=(Qa8 (heap_setCell_same _ _ 4 _ _ (.slice a2 (o++[(⟨k,n,x,p⟩:Nd)]).length c2) hb9)).2.2.2.2.1;clear c3 f3 hr hlw HG3 HO3 HP2 HO2 H1 HPP HNN HS2 hb9;obtain ⟨O,hO⟩:∃ O,o++[(⟨k,n,x,p⟩:Nd)]=O:=⟨_,rfl⟩;have hOl:O.length=o.length+1:=by rw [<- hO];simp
 rw [hO] at HR HL c9;rw [hOl] at HR HL c9;have HO:=Za hO;clear hO hOl;generalize w2.setCell ⟨b,4,none⟩ (.slice a2 (o.length+1) c2)=W9 at *;go_wp2_with fail;go_ret;exact ⟨rfl,by rw [HO.out];exact HR.out,HB2.out.trans HL.out⟩
set_option maxRecDepth 100000 in
theorem Qty (B b:Nat) (k n p:Int) (x:List UInt8) (w:World) (q:Nat) (err:Int) (o:List Nd) (h:TBadO B b q err w o) (hl:o.length<=700000) :
  Calls Tryz.prog 106 #[.pointer (some ⟨b,0,none⟩),QbB k n x p] w fun en w'=>en = .returned (.int .i64 o.length)/\Qlc b q err w'/\Below B w w':=by
 have HN0:=Za (heap_alloc_new w (Qaj k n x p));obtain ⟨s,e,bl,nv,h1,h3,hbs,hsz⟩:=h;have HB0:Hid (Below B w (w.alloc (Qaj k n x p))):=Za (Zb.alloc hsz _);obtain ⟨na,nc,rfl⟩:=h3.form;have hal:Below w.heap.size w (w.alloc (Qaj k n x p)):=Zb.alloc Zc _;have HP1:=Za (Qab h1 hal);have HO1:=Za (h3.below hal);have HNE:Hid (∀ g,(Value.slice na o.length nc).ownBlock=some g->g<w.heap.size):=Za (fun g hg=>QhG h3 hg);have HSZ:=Za (Nat.le_trans hsz hal.size);have HBS:=Za hbs;clear h1 h3 hal hsz hbs;unfold QbB;go_enter Tryz.func106,Tryz.ntmps106;go_upto_region 1 with fail;obtain ⟨P,hP⟩:∃ P,w.heap.size=P:=⟨_,rfl⟩;rw [hP] at HN0 HNE;simp only [hP];generalize w.alloc (Qaj k n x p)=W at *;have k0:∀ y,SameB W b P y->y.cell? ⟨b,4,none⟩=some (.slice na o.length nc):=fun y hy=>(Qa8 (hy.1.trans HP1.out)).2.2.2.2.1;have q0:∀ y,SameB W b P y->y.cell? ⟨P,0,none⟩=some (.int .i64 k):=fun y hy=>(Qaa (hy.2.trans HN0.out)).1;have q1:∀ y,SameB W b P y->y.cell? ⟨P,1,none⟩=some (.int .u64 n):=fun y hy=>(Qaa (hy.2.trans HN0.out)).2.1;have q2:∀ y,SameB W b P y->y.cell? ⟨P,2,none⟩=some (.string ⟨x.toArray⟩):=fun y hy=>(Qaa (hy.2.trans HN0.out)).2.2.1;have q3:∀ y,SameB W b P y->y.cell? ⟨P,3,none⟩=some (.int .i64 p):=fun y hy=>(Qaa (hy.2.trans HN0.out)).2.2.2;have HPL:Hid (P<W.heap.size):=Za (lt_of_block HN0.out);have HBL:Hid (b<W.heap.size):=Za (lt_of_block HP1.out);clear hP;refine QaI (SameB W b P) 8 [.reads [0,1,2,3,4,5],.act 6,.act 7,.act 8,.act 9,.act 10] (by kernel_rfl) (by kernel_rfl) (by kernel_rfl) (by kernel_rfl) (by kernel_rfl) (fun _ _ d _ _ h=>by cases d<;>exact h) ⟨rfl,rfl⟩ ?_;refine Qas ?_;simp only [Qaf,pQ1,pQ2,pQ3,pQ4,pQ5,pQ6]
 repeat (go_big_quiet_step (first|(intro hb;rw [k0 _ hb];exact ⟨rfl,rfl⟩)|(intro hb;rw [q0 _ hb];simp only [Result.andThen];rw [q1 _ hb];simp only;rw [q2 _ hb];simp only;rw [q3 _ hb];exact ⟨rfl,rfl⟩)))
 refine wpQuiet_nil ?_;refine Qai rfl ?_;simp only [Qaf,pQ1,pQ2,pQ3,pQ4,pQ5,pQ6];go_wp2_with fail;have hg1:Grows W (W.alloc (Qaj k n x p)).drew:=Below.drew (Zb.alloc Zc _);have HSZ2:=Za (Nat.le_trans HSZ.out hg1.size);have HP2:=Za (Qab HP1.out hg1);have HPP:=Za (Qab HN0.out hg1);have HO2:=Za (HO1.out.below hg1);have HNN:Hid ((W.alloc (Qaj k n x p)).drew.heap[W.heap.size]?=some (Qaj k n x p)):=Za (heap_alloc_new W _);have HB2:Hid (Below B w (W.alloc (Qaj k n x p)).drew):=Za (HB0.out.trans (hg1.mono HSZ.out));refine ⟨fun _=>⟨hg1.block b HBL.out,hg1.block P HPL.out⟩,?_⟩;have HS2:Hid (SameB W b P (W.alloc (Qaj k n x p)).drew):=Za ⟨hg1.block b HBL.out,hg1.block P HPL.out⟩;generalize (W.alloc (Qaj k n x p)).drew=V at *;clear hg1 HSZ HN0 HP1 HO1 HB0 k0 q0 q1 q2 q3;refine Qai rfl ?_;simp only [Qaf,pQ1,pQ2,pQ3,pQ4,pQ5,pQ6];go_wp2_with (at_builtin;refine Qb7 rfl _ _ rfl B _ o rfl HO2.out W.heap.size ⟨k,n,x,p⟩ rfl HNN.out (by omega) HSZ2.out ?_;intro v2 w2 ho hg;obtain ⟨a2,c2,rfl⟩:=NodesI.form ho;have HO3:=Za ho;have HG3:=Za hg;clear ho hg);refine ⟨fun _=>⟨(HG3.out.block b (lt_of_block HP2.out) (fun e=>QcQ HO2.out HP2.out e.symm)).trans HS2.out.1,(HG3.out.block P (lt_of_block HPP.out) (fun e=>absurd (HNE.out P e.symm) (Nat.lt_irrefl _))).trans HS2.out.2⟩,?_⟩;refine Qai rfl ?_;simp only [Qaf,pQ1,pQ2,pQ3,pQ4,pQ5,pQ6];go_wp2_with fail;refine ⟨fun h=>absurd h (by decide),?_⟩;refine Qai rfl ?_;simp only [Qaf,pQ1,pQ2,pQ3,pQ4,pQ5,pQ6];go_wp2_with fail;refine ⟨fun h=>absurd h (by decide),?_⟩;refine Qai rfl ?_;simp only [Qaf,pQ1,pQ2,pQ3,pQ4,pQ5,pQ6];have hb3:=(HG3.out.block b (lt_of_block HP2.out) (fun e=>QcQ HO2.out HP2.out e.symm)).trans HP2.out;have f3:=Qay hb3 4;have c3:=(Qa8 hb3).2.2.2.2.1;clear hb3;go_wp2_with fail;refine ⟨fun h=>absurd h (by decide),Qbb ?_⟩;have hb9:=(HG3.out.block b (lt_of_block HP2.out) (fun e=>QcQ HO2.out HP2.out e.symm)).trans HP2.out;have HR:=Za (heap_setCell_same _ _ 4 _ _ (.slice a2 (o++[(⟨k,n,x,p⟩:Nd)]).length c2) hb9);have HL:Hid (Below B V (w2.setCell ⟨b,4,none⟩ (.slice a2 (o++[(⟨k,n,x,p⟩:Nd)]).length c2))):=Za ((Zb.grown HG3.out HSZ2.out (fun k hk=>Qap HO2.out hk)).setCell HBS.out _);have c9:=(Qa8 HR.out).2.2.2.2.1;clear c3 f3 HG3 HO3 HP2 HO2 HPP HNN HS2 hb9;obtain ⟨O,hO⟩:∃ O,o++[(⟨k,n,x,p⟩:Nd)]=O:=⟨_,rfl⟩;have hOl:O.length=o.length+1:=by rw [<- hO];simp
 rw [hO] at HR HL c9;rw [hOl] at HR HL c9;clear hO hOl;generalize w2.setCell ⟨b,4,none⟩ (.slice a2 (o.length+1) c2)=W9 at *;go_wp2_with fail;go_ret;exact ⟨rfl,⟨_,_,_,_,HR.out⟩,HB2.out.trans HL.out⟩
set_option maxRecDepth 100000 in
theorem Qhi (B b:Nat) (len:Nat) (w:World) (s:List UInt8) (pos e bl:Nat) (o:List Nd) (h:TSt B b w s pos e bl o) (hl:pos+len<=1000000) :
  Calls Tryz.prog 107 #[.pointer (some ⟨b,0,none⟩),.int .i64 len,.int .i64 0] w fun en w'=>en = .returned (.bool true)/\TSt B b w' s (pos+len) e bl o/\Below B w w':=by
 have HB:=Za (h.set 1 (.int .i64 (pos+len:Nat)));have HS:=Za (h.setPos (pos+len));obtain ⟨nv,h1,h2⟩:=h.ex;obtain ⟨c0,c1,c2,c3,c4,c5⟩:=Qa8 h1;have f1:=Qay h1 1;have hc:((pos+len:Nat):Int)=(pos:Int)+(len:Int):=by omega
 rw [hc] at HB HS;have hl2:(pos:Int)+(len:Int)<=1000000:=by omega
 clear h h1 h2 hc hl;go_enter Tryz.func107,Tryz.ntmps107;go_wp2_with fail;go_ret;exact ⟨rfl,HS.out,HB.out⟩
theorem Qoq (B b:Nat) (len:Int) (er:Int) (her:er≠0) (w:World) (s:List UInt8) (pos e bl:Nat) (o:List Nd) (h:TSt B b w s pos e bl o) :
  Calls Tryz.prog 107 #[.pointer (some ⟨b,0,none⟩),.int .i64 len,.int .i64 er] w fun en w'=>en = .returned (.bool false)/\Below B w w'/\TBadO B b pos (if er=4 then QeU (QaN bl) else 3) w' o:=by
 have e0:(er==0)=false:=Zd her;by_cases h4:er=4
 ·have HC:=Za (QjI B b w s pos e bl o h);rw [if_pos h4];subst h4;clear h her e0;go_enter Tryz.func107,Tryz.ntmps107;go_wp2_with fail;((with_reducible refine HC.out.mono ?_));rintro en w1 ⟨rfl,hb,ht⟩;have HB:=Za hb;have HT:=Za ht;clear hb ht HC;go_wp2_with fail;go_ret;exact ⟨rfl,HB.out,HT.out⟩
 ·have e4:(er==4)=false:=Zd h4;have HC:=Za (QgS B b w s pos e bl o h);rw [if_neg h4];clear h her h4;go_enter Tryz.func107,Tryz.ntmps107;go_wp2_with fail;((with_reducible refine HC.out.mono ?_));rintro en w1 ⟨rfl,hb,ht⟩;have HB:=Za hb;have HT:=Za ht;clear hb ht HC;go_wp2_with fail;go_ret;exact ⟨rfl,HB.out,HT.out⟩
theorem Qi9 (B b:Nat) (len:Int) (er:Int) (her:er≠0) (w:World) (s:List UInt8) (pos e bl:Nat) (o:List Nd) (h:TSt B b w s pos e bl o) :
  Calls Tryz.prog 107 #[.pointer (some ⟨b,0,none⟩),.int .i64 len,.int .i64 er] w fun en w'=>en = .returned (.bool false)/\Below B w w'/\Qlc b pos (if er=4 then QeU (QaN bl) else 3) w' :=
 (Qoq B b len er her w s pos e bl o h).mono fun _ _ ⟨a,c,d⟩=>⟨a,c,d.bad⟩
def QvX (B b:Nat) (w:World) (s:List UInt8) (pos e bl:Nat) (o:List Nd) (x:CR) (en:Ending) (w':World):Prop :=
 Below B w w'/\match x with
  | .no err=>en = .returned (.tuple #[.int .i64 0,.bool false])/\Qlc b pos err w'
  | .ok c=>en = .returned (.tuple #[.int .i64 c,.bool true])/\TSt B b w' s (pos+1) e bl o
set_option maxRecDepth 100000 in
theorem QrX (B b:Nat) (most:Nat) (w:World) (s:List UInt8) (pos e bl:Nat) (o:List Nd) (h:TSt B b w s pos e bl o) (hp:pos<=e) (he:e<=s.length) (hs:s.length<=1000000) :
  Calls Tryz.prog 154 #[.pointer (some ⟨b,0,none⟩),.int .i64 most] w (QvX B b w s pos e bl o (Qbf s most (QaN bl) pos e)):=by
 have HSZ:=Za h.size;have H0:=Za h;obtain ⟨nv,h1,h2⟩:=h.ex;obtain ⟨c0,c1,c2,c3,c4,c5⟩:=Qa8 h1;have f1:=Qay h1 1;clear h h1 h2;by_cases hpe:pos=e
 ·have HX:Hid (Qbf s most (QaN bl) pos e = .no (QeU (QaN bl))):=Za (by unfold Qbf;rw [if_pos hpe]);rw [HX.out];have hpe':((pos:Int)==(e:Int))=true:=by rw [beq_iff_eq];omega
  have HC:=Za (fun n=>QeW B b (w.drewN n) s pos e bl o (H0.out.below (below_drewN Zb n)));clear hpe H0;go_enter Tryz.func154,Tryz.ntmps154;go_wp2_with fail;go_quiet (fail);go_wp2_with fail;((with_reducible refine (HC.out _).mono ?_));rintro en w1 ⟨rfl,hb,ht⟩;have HB:=Za hb;have HT:=Za ht;clear hb ht HC;go_wp2_with fail;go_ret2;exact ⟨(below_drewN Zb _).trans HB.out,rfl,HT.out⟩
 ·have hpe':((pos:Int)==(e:Int))=false:=by rw [beq_eq_false_iff_ne];omega
  have hps:pos<s.length:=by omega
  have hps':(pos:Int)<(s.length:Int):=by omega
  obtain ⟨c,hc⟩:∃ c,s.getD pos 0=c:=⟨_,rfl⟩;have hge:∀ h:pos<s.length,s[pos]=c:=fun h=>by rw [<- hc,List.getD_eq_getElem?_getD,List.getElem?_eq_getElem h];rfl
  have hc0:(0:Int)<=(c.toNat:Int):=by omega
  have hc256:(c.toNat:Int)<256:=by have:=c.toNat_lt;omega
  by_cases hm:most<c.toNat
  ·have HX:Hid (Qbf s most (QaN bl) pos e = .no 3):=Za (by unfold Qbf;rw [if_neg hpe,hc,if_pos hm]);rw [HX.out];have hm':(c.toNat:Int)>(most:Int):=by omega
   have HC:=Za (fun n=>QhD B b (w.drewN n) s pos e bl o (H0.out.below (below_drewN Zb n)));clear hpe H0 hc hm;go_enter Tryz.func154,Tryz.ntmps154;go_wp2_with fail;go_quiet (fail);go_wp2_with fail;go_quiet (fail);go_wp2_with fail;((with_reducible refine (HC.out _).mono ?_));rintro en w1 ⟨rfl,hb,ht⟩;have HB:=Za hb;have HT:=Za ht;clear hb ht HC;go_wp2_with fail;go_ret2;exact ⟨(below_drewN Zb _).trans HB.out,rfl,HT.out⟩
  ·have HX:Hid (Qbf s most (QaN bl) pos e = .ok c.toNat):=Za (by unfold Qbf;rw [if_neg hpe,hc,if_neg hm]);rw [HX.out];have hm':¬ (c.toNat:Int)>(most:Int):=by omega
   have hcast:((pos+1:Nat):Int)=(pos:Int)+1:=by omega
   have HCC:=Za hcast;obtain ⟨z,hz⟩:∃ z:Int,(pos:Int)=z:=⟨_,rfl⟩;have hz0:0<=z:=by omega
   have hz1:z<1000000:=by omega
   have HZ:=Za hz;clear hpe hc hm hs he hp hps hcast hz;go_enter Tryz.func154,Tryz.ntmps154;go_wp2_with fail;go_quiet (fail);go_wp2_with fail;go_quiet (fail);generalize hW:(w.drewN _).drewN _=W;have HW:Hid (TSt B b W s pos e bl o):=Za (hW▸H0.out.below (below_drewN (below_drewN Zb _) _));have HBW:Hid (Below B w W):=Za (hW▸below_drewN (below_drewN Zb _) _);clear hW c0 c1 c2 c3 c4 c5 f1 H0;have HS:=Za (HW.out.setPos (pos+1));have HB:=Za (HBW.out.trans (HW.out.set 1 (.int .i64 ((pos+1:Nat):Int))));rw [HCC.out,HZ.out] at HS HB;obtain ⟨nv,h1,h2⟩:=HW.out.ex;obtain ⟨c0,c1,c2,c3,c4,c5⟩:=Qa8 h1;have f1:=Qay h1 1;rw [HZ.out] at c1;clear h1 h2 HW HBW HCC;go_wp2_with fail;go_ret2;exact ⟨HB.out,rfl,HS.out⟩
end
section
open Go.RowKit
attribute [local go_sem] ByteArray.mk_append_mk Qac Qad Qae
theorem QiG {s:List UInt8} {root:Bool} {up pos:Nat} (h:(QaC s root up pos).err≠0):(QaC s root up pos).segs=[]:=by
 unfold QaC at h |-;by_cases h32:32<up
 ·rw [if_pos h32];rfl
 ·rw [if_neg h32] at h |-;by_cases hc:(Qbi (s.drop pos) (32-up) (decide (0<pos))).2.2=0
  ·simp only [if_pos hc] at h |-;by_cases hg:(Qbl s (Qbi (s.drop pos) (32-up) (decide (0<pos))).1.toNat (pos+(Qbi (s.drop pos) (32-up) (decide (0<pos))).2.1.toNat) []).2.2=0
   ·simp only [if_pos hg] at h;exact absurd rfl h
   ·simp only [if_neg hg];rfl
  ·simp only [if_neg hc];rfl
theorem QpX {s:List UInt8} (h:(QaA s).err≠0):(QaA s).segs=[]:=by
 unfold QaA at h |-;split
 ·next hr=>rw [if_pos hr] at h;exact QiG h
 ·next hr=>rw [if_neg hr] at h;exact QiG h
theorem Qnm (s:List UInt8):∀ x∈(QaA s).segs,x.length<=9223372036854775000:=by
 intro x hx;by_cases h:(QaA s).err=0
 ·have hv:=(QeK s h).2.2;unfold QaD at hv;rw [Bool.and_eq_true,List.all_eq_true] at hv;have:=(QbG (hv.2 x hx)).2;omega
 ·rw [QpX h] at hx;cases hx
def Qw4 (B b:Nat) (w:World) (s:List UInt8) (pos e bl:Nat) (o:List Nd) (x:TR) (en:Ending) (w':World):Prop :=
 Below B w w'/\match x with
  | .no err=>(∃ t:List UInt8,en = .returned (.tuple #[.string ⟨t.toArray⟩,.bool false]))/\Qlc b pos err w'
  | .ok q t=>en = .returned (.tuple #[.string ⟨t.toArray⟩,.bool true])/\TSt B b w' s q e bl o
def Qtz (B b:Nat) (w:World) (s:List UInt8) (pos e bl:Nat) (o:List Nd) (x:TR) (en:Ending) (w':World):Prop :=
 Below B w w'/\match x with
  | .no err=>(∃ t:List UInt8,en = .returned (.tuple #[.string ⟨t.toArray⟩,.bool false]))/\TBadO B b pos err w' o
  | .ok q t=>en = .returned (.tuple #[.string ⟨t.toArray⟩,.bool true])/\TSt B b w' s q e bl o
set_option maxRecDepth 100000 in
theorem Qqx (B b:Nat) (single:Bool) (w:World) (s:List UInt8) (pos e bl:Nat) (o:List Nd) (h:TSt B b w s pos e bl o) (hp:pos<=e) (he:e<=s.length) (hs:s.length<=1000000) :
  Calls Tryz.prog 109 #[.pointer (some ⟨b,0,none⟩),.bool single] w (Qtz B b w s pos e bl o (Qcc s single (QaN bl) pos e)):=by
 have H0:=Za h;have HR:=Za (Qhg B b w s pos e bl o h hp he hs);have hsz:=h.size;obtain ⟨X,hX⟩:∃ X,Hid (Qcc s single (QaN bl) pos e=X):=⟨_,Za rfl⟩;have hXd:=hX.out;unfold Qcc at hXd;have hrl:=Qbo hp he;obtain ⟨rs,hrs⟩:∃ rs,Qam s pos e=rs:=⟨_,rfl⟩;rw [hrs] at HR hXd hrl;have HP:=Za (fun w=>Qwj rs w (by omega));unfold QvV at HP;have hsh:=Qnm rs;have hbk:=QeK rs;obtain ⟨Q,hQ⟩:∃ Q,QaA rs=Q:=⟨_,rfl⟩;rw [hQ] at HP hXd hsh hbk;obtain ⟨R,U,SG,ps,er⟩:=Q;simp only [] at HP hXd hsh hbk;rw [hX.out];have HX:=Za hXd;have HSH:=Za hsh;have hps:er=0->pos+ps<=1000000:=fun h=>by have:=(hbk h).2.1;omega
 have HFM:Hid (∀ w P,PathV w P R (U:Int) SG->Calls Tryz.prog 153 #[P] w fun e w'=>e = .returned (.string ⟨(QdR R U SG).toArray⟩)/\Below w.heap.size w w'):=Za (fun w P h=>Qpc P R U SG w h HSH.out);obtain ⟨FT,hFT⟩:∃ FT,QdR R U SG=FT:=⟨_,rfl⟩;rw [hFT] at HFM;have HFT:=Za hFT;obtain ⟨n1,hn1⟩:∃ n,SG.length=n:=⟨_,rfl⟩;have HN1:=Za hn1;clear h hXd hX hrl hrs hsh hbk hQ hFT hn1 hs hp he;go_enter Tryz.func109,Tryz.ntmps109;go_wp2_with fail;((with_reducible refine HR.out.mono ?_));rintro en w1 ⟨rfl,nq,rfl⟩;go_wp2_with fail;((with_reducible refine (HP.out _).mono ?_));rintro en w2 ⟨a1,n,c1,rfl,HS2,HB2⟩;have hb2:Below B w w2:=(below_drewN Zb nq).trans (HB2.out.mono (by simpa using hsz));have H2:Hid (TSt B b w2 s pos e bl o):=Za ((H0.out.below (below_drewN Zb nq)).below HB2.out);have HW2:=Za hb2;have hnn:n=n1:=by
  obtain ⟨a',c',hv,_⟩:=HS2.out.form;injection hv with _ hv _;rw [hv];exact HN1.out
 subst hnn;have HBX:=Za (BoxAt.start (root:=R) (up:=(U:Int)) HS2.out);have hal:Below w2.heap.size w2 (w2.alloc (.cells #[.bool R,.int .i64 U,.slice a1 n c1] 128)):=Zb.alloc Zc _;have H3:=Za (H2.out.below hal);have HW3:=Za (Qah HW2.out hsz hal);clear hal hb2 HB2 H2 HW2 H0 HR HP HS2;go_upto_region 2 with fail;generalize w2.alloc (.cells #[.bool R,.int .i64 U,.slice a1 n c1] 128)=w3 at HBX H3 HW3 |-;have HFC:=Za (HFM.out w3 _ HBX.out.pathV);obtain ⟨p0,p1,p2⟩:=HBX.out.cells;clear HFM HBX;by_cases her:er=0
 ·subst her;by_cases hbad:single=true/\(R=true\/0<U\/SG.length≠1)
  ·have HXX:Hid (X = .no 3):=Za (by rw [<- HX.out,if_pos rfl,if_pos hbad]);obtain ⟨rfl,hb⟩:=hbad;have HC:=Za (QgS B b w3 s pos e bl o H3.out);clear hps;have hb':R=true\/(R=false/\(U:Int)>0)\/(R=false/\U=0/\((n:Int) != 1)=true):=by
    cases R with
    | true=>exact .inl rfl
    | false =>
      rcases hb with h|h|h
      ·cases h
      ·exact .inr (.inl ⟨rfl,by omega⟩)
      ·by_cases hu:(U:Int)>0
       ·exact .inr (.inl ⟨rfl,hu⟩)
       ·exact .inr (.inr ⟨rfl,by omega,by rw [bne_iff_ne];rw [HN1.out] at h;omega⟩)
   clear hb;rcases hb' with rfl|⟨rfl,hu⟩|⟨rfl,rfl,hn⟩
   all_goals
    go_wp2_with fail;((with_reducible refine HC.out.mono ?_));rintro en w4 ⟨rfl,hb4,ht4⟩;have HB4:=Za (HW3.out.trans hb4);have HT4:=Za ht4;clear hb4 ht4 HC;go_wp2_with fail;go_ret2;rw [HXX.out];exact ⟨HB4.out,⟨[],rfl⟩,HT4.out⟩
  ·have HXX:Hid (X = .ok (pos+ps) FT):=Za (by rw [<- HX.out,if_pos rfl,if_neg hbad,HFT.out]);have hpl:=Za (hps rfl);have hb':single=false\/(single=true/\R=false/\U=0/\((n:Int) != 1)=false):=by
    cases single with
    | false=>exact .inl rfl
    | true =>
      refine .inr ⟨rfl,?_,?_,?_⟩
      ·cases R with
       | true=>exact absurd ⟨rfl,.inl rfl⟩ hbad
       | false=>rfl
      ·exact Classical.byContradiction fun h=>hbad ⟨rfl,.inr (.inl (by omega))⟩
      ·rw [bne_eq_false_iff_eq];exact Classical.byContradiction fun h=>hbad ⟨rfl,.inr (.inr (by rw [HN1.out];omega))⟩
   clear hbad hps;rcases hb' with rfl|⟨rfl,rfl,rfl,hn⟩
   all_goals
    (try rw [show (((0:Nat)):Int)=0 from rfl] at HFC);go_wp2_with fail;((with_reducible refine HFC.out.mono ?_));rintro en w4 ⟨rfl,hb4⟩;have H4:=Za (H3.out.below hb4);have HW4:=Za (Qah HW3.out hsz hb4);clear hb4 HFC H3 HW3;have HC:=Za (Qhi B b ps w4 s pos e bl o H4.out hpl.out);go_wp2_with fail;((with_reducible refine HC.out.mono ?_));rintro en w5 ⟨rfl,ht5,hb5⟩;have HB5:=Za (HW4.out.trans hb5);have HT5:=Za ht5;clear hb5 ht5 HC;go_wp2_with fail;go_ret2;rw [HXX.out];exact ⟨HB5.out,rfl,HT5.out⟩
 ·have HXX:Hid (X = .no (if (er:Int)=4 then QeU (QaN bl) else 3)):=Za (by
   rw [<- HX.out,if_neg her];unfold QhA;by_cases h4:er=4
   ·rw [if_pos h4,if_pos (by omega)]
   ·rw [if_neg h4,if_neg (by omega)])
  have her':((er:Int)==0)=false:=by rw [beq_eq_false_iff_ne];omega
  have HER:Hid ((er:Int)≠0):=Za (by omega);clear her hps;go_wp2_with fail;((with_reducible refine HFC.out.mono ?_));rintro en w4 ⟨rfl,hb4⟩;have H4:=Za (H3.out.below hb4);have HW4:=Za (Qah HW3.out hsz hb4);clear hb4 HFC H3 HW3;have HC:=Za (Qoq B b ps er HER.out w4 s pos e bl o H4.out);go_wp2_with fail;((with_reducible refine HC.out.mono ?_));rintro en w5 ⟨rfl,hb5,ht5⟩;have HB5:=Za (HW4.out.trans hb5);have HT5:=Za ht5;clear hb5 ht5 HC;go_wp2_with fail;go_ret2;rw [HXX.out];exact ⟨HB5.out,⟨FT,rfl⟩,HT5.out⟩
theorem QrY (B b:Nat) (single:Bool) (w:World) (s:List UInt8) (pos e bl:Nat) (o:List Nd) (h:TSt B b w s pos e bl o) (hp:pos<=e) (he:e<=s.length) (hs:s.length<=1000000) :
  Calls Tryz.prog 109 #[.pointer (some ⟨b,0,none⟩),.bool single] w (Qw4 B b w s pos e bl o (Qcc s single (QaN bl) pos e)) :=
 (Qqx B b single w s pos e bl o h hp he hs).mono fun en w' ⟨h1,h2⟩=>⟨h1,by
  cases hx:Qcc s single (QaN bl) pos e with
  | no err=>rw [hx] at h2;exact ⟨h2.1,h2.2.bad⟩
  | ok q t=>rw [hx] at h2;exact h2⟩
end
end Go.Proofs.YtoohondkpddmcaaGreatDoor
