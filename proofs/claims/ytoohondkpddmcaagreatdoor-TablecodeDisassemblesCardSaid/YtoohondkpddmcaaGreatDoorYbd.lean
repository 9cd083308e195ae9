/- Fc Lo Ly -/
import Derived.Test.YtoohondkpddmcaaGreatDoorYzz
import Derived.Test.YtoohondkpddmcaaGreatDoorYam
import Derived.Test.YtoohondkpddmcaaGreatDoorYas
import Derived.Test.YtoohondkpddmcaaGreatDoorYbc
import Derived.Test.YtoohondkpddmcaaGreatDoorYav
namespace Go.Proofs.YtoohondkpddmcaaGreatDoor
set_option maxHeartbeats 32000000
set_option linter.unusedVariables false
set_option linter.unusedSimpArgs false
section
open Go.RowKit
def Qew:List Int:=[1,2,3,5,6,7,10,11,12,13,14,15,16,17,18,19,20,21,30,31,32,33,34,35,36,37,38,39,40,41,42,50,51,60,61,62,63,64,65,66,67,68,69,70,71,72,73,74,75,76,77,78,79,80,81,82,83,84,85,86,87,88]
theorem QlA {k:UInt8} {op:Int} (h:Qaq k op=true):op∈Qew:=by
 have hx:op=1\/op=2\/op=3\/op=5\/op=6\/op=7\/(10<=op/\op<=21)\/(30<=op/\op<=42)\/op=50\/op=51\/(60<=op/\op<=88):=by
  unfold Qaq QdZ Qcd QcL at h
  repeat' split at h
  all_goals first|(cases h;done)|(simp only [Bool.or_eq_true,Bool.and_eq_true,beq_iff_eq,decide_eq_true_eq] at h;omega)
 have hall:∀ i:Fin 100,((i.val:Int)=1\/(i.val:Int)=2\/(i.val:Int)=3\/(i.val:Int)=5\/(i.val:Int)=6\/(i.val:Int)=7\/(10<=(i.val:Int)/\(i.val:Int)<=21)\/(30<=(i.val:Int)/\(i.val:Int)<=42)\/(i.val:Int)=50\/(i.val:Int)=51\/(60<=(i.val:Int)/\(i.val:Int)<=88))->(i.val:Int)∈Qew:=by decide +kernel
 obtain ⟨n,rfl⟩:=Int.eq_ofNat_of_zero_le (show 0<=op by omega);exact hall ⟨n,by omega⟩ hx
end
section
open Go.RowKit
attribute [local go_sem] ByteArray.mk_append_mk Qah Qai Qag
theorem QlB {x:Nat} {v:Int} (h:opB x=v) (hv:v≠0):Ending.returned (.tuple #[.int .i64 v,.bool true]) = .returned (.tuple #[.int .i64 (opB x),.bool (opB x != 0)]):=by
 rw [h,show (v != 0)=true from bne_iff_ne.2 hv]
theorem QiC {x:Nat} (h:opB x=0):Ending.returned (.tuple #[.int .i64 0,.bool false]) = .returned (.tuple #[.int .i64 (opB x),.bool (opB x != 0)]):=by
 rw [h];rfl
set_option maxRecDepth 100000 in
theorem QtC (x:Nat) (hx:x<256) (w:World):Calls Tryz.prog 147 #[.int .u8 x] w fun e w'=>e = .returned (.tuple #[.int .i64 (opB x),.bool (opB x != 0)])/\w=w':=by
 have hx':(x:Int)<256:=by omega
 by_cases h48:x=48
 ·subst h48;go_enter Tryz.func147,Tryz.ntmps147;go_wp2_with fail;go_ret2;exact ⟨rfl,rfl⟩
 by_cases h49:x=49
 ·subst h49;go_enter Tryz.func147,Tryz.ntmps147;go_wp2_with fail;go_ret2;exact ⟨rfl,rfl⟩
 by_cases h63:x=63
 ·subst h63;go_enter Tryz.func147,Tryz.ntmps147;go_wp2_with fail;go_ret2;exact ⟨rfl,rfl⟩
 by_cases h96:x=96
 ·subst h96;go_enter Tryz.func147,Tryz.ntmps147;go_wp2_with fail;go_ret2;exact ⟨rfl,rfl⟩
 by_cases h104:x=104
 ·subst h104;go_enter Tryz.func147,Tryz.ntmps147;go_wp2_with fail;go_ret2;exact ⟨rfl,rfl⟩
 have b48:((x:Int)==48)=false:=Zd (by omega);have b49:((x:Int)==49)=false:=Zd (by omega);have b63:((x:Int)==63)=false:=Zd (by omega);have b96:((x:Int)==96)=false:=Zd (by omega);have b104:((x:Int)==104)=false:=Zd (by omega);by_cases r16:16<=x/\x<=27
 ·have g1:(x:Int)>=16:=by omega
  have g2:(x:Int)<=27:=by omega
  go_enter Tryz.func147,Tryz.ntmps147;go_wp2_with fail
  all_goals first
   | (exfalso;omega)
   | (go_ret2
      exact ⟨QlB (by (unfold opB;repeat' split)<;>omega) (by omega),rfl⟩)
   | (go_ret2
      exact ⟨QiC (by (unfold opB;repeat' split)<;>omega),rfl⟩)
 by_cases r112:112<=x/\x<=124
 ·have g1:(x:Int)>=112:=by omega
  have g2:(x:Int)<=124:=by omega
  go_enter Tryz.func147,Tryz.ntmps147;go_wp2_with fail
  all_goals first
   | (exfalso;omega)
   | (go_ret2
      exact ⟨QlB (by (unfold opB;repeat' split)<;>omega) (by omega),rfl⟩)
   | (go_ret2
      exact ⟨QiC (by (unfold opB;repeat' split)<;>omega),rfl⟩)
 by_cases r128:128<=x/\x<=156
 ·have g1:(x:Int)>=128:=by omega
  have g2:(x:Int)<=156:=by omega
  go_enter Tryz.func147,Tryz.ntmps147;go_wp2_with fail
  all_goals first
   | (exfalso;omega)
   | (go_ret2
      exact ⟨QlB (by (unfold opB;repeat' split)<;>omega) (by omega),rfl⟩)
   | (go_ret2
      exact ⟨QiC (by (unfold opB;repeat' split)<;>omega),rfl⟩)
 ·have n1:¬ (16<=(x:Int)/\(x:Int)<=27):=by omega
  go_enter Tryz.func147,Tryz.ntmps147;go_wp2_with fail
  all_goals first
   | (exfalso;omega)
   | (go_ret2
      exact ⟨QlB (by (unfold opB;repeat' split)<;>omega) (by omega),rfl⟩)
   | (go_ret2
      exact ⟨QiC (by (unfold opB;repeat' split)<;>omega),rfl⟩)
theorem QuU (x:Nat) (hx:x<256) (v:Int) (b:Bool) (h:Hid (opB x=v)) (k:Hid ((v != 0)=b)) (w:World):Calls Tryz.prog 147 #[.int .u8 x] w fun e w'=>e = .returned (.tuple #[.int .i64 v,.bool b])/\w=w':=by
 have:=QtC x hx w;rw [h.out,k.out] at this;exact this
def opX (x:Nat):Int :=
 if x=0\/x=1\/x=255\/x=10\/x=11\/x=12\/x=14 then 1
 else if x=13 then 2
 else if (65<=x/\x<=90)\/x=95\/x=92\/x=94\/x=46\/x=47 then 3
 else if 96<=x/\x<104 then 6
 else if 104<=x/\x<111 then 7
 else opB x
set_option maxRecDepth 100000 in
theorem QnU (c:UInt8) (w:World):Calls Tryz.prog 101 #[.int .u8 c.toNat] w fun e w'=>e = .returned (.int .i64 (QaP c))/\w=w':=by
 have hx:=c.toNat_lt;have HO:Hid (QaP c=opX c.toNat):=Za rfl;rw [HO.out];generalize c.toNat=x at hx |-;have hx':(x:Int)<256:=by omega
 by_cases h0:x=0
 ·subst h0;go_enter Tryz.func101,Tryz.ntmps101;go_wp2_with fail;go_ret;exact ⟨rfl,rfl⟩
 by_cases h1:x=1
 ·subst h1;go_enter Tryz.func101,Tryz.ntmps101;go_wp2_with fail;go_ret;exact ⟨rfl,rfl⟩
 by_cases h255:x=255
 ·subst h255;go_enter Tryz.func101,Tryz.ntmps101;go_wp2_with fail;go_ret;exact ⟨rfl,rfl⟩
 by_cases h10:x=10
 ·subst h10;go_enter Tryz.func101,Tryz.ntmps101;go_wp2_with fail;go_ret;exact ⟨rfl,rfl⟩
 by_cases h11:x=11
 ·subst h11;go_enter Tryz.func101,Tryz.ntmps101;go_wp2_with fail;go_ret;exact ⟨rfl,rfl⟩
 by_cases h12:x=12
 ·subst h12;go_enter Tryz.func101,Tryz.ntmps101;go_wp2_with fail;go_ret;exact ⟨rfl,rfl⟩
 by_cases h14:x=14
 ·subst h14;go_enter Tryz.func101,Tryz.ntmps101;go_wp2_with fail;go_ret;exact ⟨rfl,rfl⟩
 by_cases h13:x=13
 ·subst h13;go_enter Tryz.func101,Tryz.ntmps101;go_wp2_with fail;go_ret;exact ⟨rfl,rfl⟩
 by_cases h95:x=95
 ·subst h95;go_enter Tryz.func101,Tryz.ntmps101;go_wp2_with fail;go_ret;exact ⟨rfl,rfl⟩
 by_cases h92:x=92
 ·subst h92;go_enter Tryz.func101,Tryz.ntmps101;go_wp2_with fail;go_ret;exact ⟨rfl,rfl⟩
 by_cases h94:x=94
 ·subst h94;go_enter Tryz.func101,Tryz.ntmps101;go_wp2_with fail;go_ret;exact ⟨rfl,rfl⟩
 by_cases h46:x=46
 ·subst h46;go_enter Tryz.func101,Tryz.ntmps101;go_wp2_with fail;go_ret;exact ⟨rfl,rfl⟩
 by_cases h47:x=47
 ·subst h47;go_enter Tryz.func101,Tryz.ntmps101;go_wp2_with fail;go_ret;exact ⟨rfl,rfl⟩
 have b0:((x:Int)==0)=false:=Zd (by omega);have b1:((x:Int)==1)=false:=Zd (by omega);have b255:((x:Int)==255)=false:=Zd (by omega);have b10:((x:Int)==10)=false:=Zd (by omega);have b11:((x:Int)==11)=false:=Zd (by omega);have b12:((x:Int)==12)=false:=Zd (by omega);have b14:((x:Int)==14)=false:=Zd (by omega);have b13:((x:Int)==13)=false:=Zd (by omega);have b95:((x:Int)==95)=false:=Zd (by omega);have b92:((x:Int)==92)=false:=Zd (by omega);have b94:((x:Int)==94)=false:=Zd (by omega);have b46:((x:Int)==46)=false:=Zd (by omega);have b47:((x:Int)==47)=false:=Zd (by omega);by_cases r65:65<=x/\x<=90
 ·have g1:(x:Int)>=65:=by omega
  have g2:(x:Int)<=90:=by omega
  have HE:Hid (opX x=3):=Za (by (unfold opX;repeat' split)<;>omega);rw [HE.out];go_enter Tryz.func101,Tryz.ntmps101;go_wp2_with fail
  all_goals first
   | (exfalso;omega)
   | (go_ret
      exact ⟨rfl,rfl⟩)
 by_cases r96:96<=x/\x<=103
 ·have g1:(x:Int)>=96:=by omega
  have g2:(x:Int)<=103:=by omega
  have HE:Hid (opX x=6):=Za (by (unfold opX;repeat' split)<;>omega);rw [HE.out];go_enter Tryz.func101,Tryz.ntmps101;go_wp2_with fail
  all_goals first
   | (exfalso;omega)
   | (go_ret
      exact ⟨rfl,rfl⟩)
 by_cases r104:104<=x/\x<=110
 ·have g1:(x:Int)>=104:=by omega
  have g2:(x:Int)<=110:=by omega
  have HE:Hid (opX x=7):=Za (by (unfold opX;repeat' split)<;>omega);rw [HE.out];go_enter Tryz.func101,Tryz.ntmps101;go_wp2_with fail
  all_goals first
   | (exfalso;omega)
   | (go_ret
      exact ⟨rfl,rfl⟩)
 have HE:Hid (opX x=opB x):=Za (by (unfold opX;repeat' split)<;>first|rfl|omega);rw [HE.out];obtain ⟨v,hv⟩:∃ v,Hid (opB x=v):=⟨_,Za rfl⟩;obtain ⟨b,hb⟩:∃ b,Hid ((v != 0)=b):=⟨_,Za rfl⟩;have HC:=Za (QuU x hx v b hv hb);rw [hv.out];have n1:¬ (65<=(x:Int)/\(x:Int)<=90):=by omega
 have n2:¬ (96<=(x:Int)/\(x:Int)<104):=by omega
 have n3:¬ (104<=(x:Int)/\(x:Int)<111):=by omega
 go_enter Tryz.func101,Tryz.ntmps101;go_wp2_with (go_at_call 147;((with_reducible refine (HC.out _).mono ?_));rintro e w1 ⟨rfl,rfl⟩)
 all_goals first
  | (exfalso;omega)
  | (go_ret
     exact ⟨rfl,rfl⟩)
theorem Qde (c:UInt8) (v:Int) (h:Hid (QaP c=v)) (w:World):Calls Tryz.prog 101 #[.int .u8 c.toNat] w fun e w'=>e = .returned (.int .i64 v)/\w=w':=by
 have:=QnU c w;rw [h.out] at this;exact this
def QoN:List Int:=[1,2,3,5,6,7,30,31,32,33,34,35,36,37,38,39,40,41,42,60,61,62,63,64,65,66,67,68,69,70,71,72,73,74,75,76,77,78,79,80,81,82,83,84,85,86,87,88]
set_option maxRecDepth 100000 in
theorem Qkg (op:Int) (h:op∈QoN) (h31:op≠31) (w:World):Calls Tryz.prog 208 #[.int .i64 op] w fun e w'=>e = .returned (.string ⟨(Qax op).2.toArray⟩)/\w=w':=by
 simp only [QoN,List.mem_cons,List.not_mem_nil,or_false] at h;rcases h with rfl|rfl|rfl|rfl|rfl|rfl|rfl|rfl|rfl|rfl|rfl|rfl|rfl|rfl|rfl|rfl|rfl|rfl|rfl|rfl|rfl|rfl|rfl|rfl|rfl|rfl|rfl|rfl|rfl|rfl|rfl|rfl|rfl|rfl|rfl|rfl|rfl|rfl|rfl|rfl|rfl|rfl|rfl|rfl|rfl|rfl|rfl|rfl
 all_goals first
  | (exact absurd rfl h31)
  | (clear h31
     go_enter Tryz.func208,Tryz.ntmps208;go_wp2_with fail;go_ret;exact ⟨rfl,rfl⟩)
theorem QrV:∀ op∈Qew,op∈QoN\/op=10\/op=11\/op=12\/op=13\/op=14\/op=15\/op=16\/op=17\/op=18\/op=19\/op=20\/op=21\/op=50\/op=51:=by decide +kernel
theorem QuV:∀ op∈QoN,op≠10/\op≠11/\op≠12/\op≠13/\op≠14/\op≠15/\op≠16/\op≠17/\op≠18/\op≠19/\op≠20/\op≠21/\op≠50/\op≠51:=by decide +kernel
set_option maxRecDepth 100000 in
theorem QjI (op:Int) (h:op∈Qew) (h31:op≠31) (w:World):Calls Tryz.prog 156 #[.int .i64 op] w fun e w'=>e = .returned (.string ⟨(Qax op).2.toArray⟩)/\w=w':=by
 rcases QrV op h with hs|rfl|rfl|rfl|rfl|rfl|rfl|rfl|rfl|rfl|rfl|rfl|rfl|rfl|rfl
 ·obtain ⟨n10,n11,n12,n13,n14,n15,n16,n17,n18,n19,n20,n21,n50,n51⟩:=QuV op hs;have HC:=Za (Qkg op hs h31 w);have HK:Hid (∀ q:Int,op≠q->(op==q)=false):=Za (fun q hq=>Zd hq);have b10:=HK.out 10 n10;have b11:=HK.out 11 n11;have b12:=HK.out 12 n12;have b13:=HK.out 13 n13;have b14:=HK.out 14 n14;have b15:=HK.out 15 n15;have b16:=HK.out 16 n16;have b17:=HK.out 17 n17;have b18:=HK.out 18 n18;have b19:=HK.out 19 n19;have b20:=HK.out 20 n20;have b21:=HK.out 21 n21;have b50:=HK.out 50 n50;have b51:=HK.out 51 n51;clear h h31 hs n10 n11 n12 n13 n14 n15 n16 n17 n18 n19 n20 n21 n50 n51;go_enter Tryz.func156,Tryz.ntmps156;go_wp2_with fail;((with_reducible refine HC.out.mono ?_));rintro e w1 ⟨rfl,rfl⟩;go_wp2_with fail;go_ret;exact ⟨rfl,rfl⟩
 all_goals
  clear h31;go_enter Tryz.func156,Tryz.ntmps156;go_wp2_with fail;go_ret;exact ⟨rfl,rfl⟩
end
section
open Go.RowKit
attribute [local go_sem] ByteArray.mk_append_mk Qah Qai Qag
theorem Qp5:∀ k:Fin 89,Qcv ((k.val:Nat):Int)=true->opB (QbL ((k.val:Nat):Int))=((k.val:Nat):Int)/\(k.val:Nat)≠0:=by decide +kernel
theorem QrW:∀ x:Fin 256,opB x.val≠0->1<=opB x.val/\opB x.val<=88/\Qcv (opB x.val)=true/\QbL (opB x.val)=x.val:=by decide +kernel
theorem QtD:∀ k:Fin 89,QbL ((k.val:Nat):Int)<256:=by decide +kernel
set_option maxRecDepth 100000 in
theorem QuW (x:Nat) (hx:x<256) (v:Int) (b:Bool) (h:Hid (opB x=v)) (k:Hid ((v != 0)=b)) (w:World):Calls Tryz.prog 209 #[.int .u8 x] w fun e w'=>e = .returned (.tuple #[.int .i64 v,.bool b])/\w=w':=by
 have HX:=Za hx;have hx':(x:Int)<256:=by omega
 clear hx;go_enter Tryz.func209,Tryz.ntmps209;go_wp2_with fail;go_loopw [4] (fun z wr=>∃ (q:Nat),z = .int .i64 q/\1<=q/\q<=89/\Hid (∀ j:Nat,1<=j->j<q->¬ (Qcv (j:Int)=true/\QbL (j:Int)=x))/\w=wr) (fun z _=>89-(intOf z).toNat)
 case atStart=>exact ⟨1,rfl,by omega,by omega,Za (fun j h1 h2=>by omega),rfl⟩
 case round =>
  obtain ⟨q,rfl,h1,h2,HN,hw⟩:=hrel;obtain ⟨w4,rfl⟩:∃ y:World,y=wr:=⟨_,rfl⟩;subst hw;by_cases hq:q<=88
  ·have hq':(q:Int)<=88:=by omega
   obtain ⟨cp,hcp⟩:∃ c:Nat,QbL (q:Int)=c:=⟨_,rfl⟩;obtain ⟨ck,hck⟩:∃ c:Bool,Qcv (q:Int)=c:=⟨_,rfl⟩;have hcl:cp<256:=by rw [<- hcp];exact QtD ⟨q,by omega⟩
   have HC:=Za (Qd3 q cp ck (by rw [hcp]) hck w);by_cases hf:ck=true/\cp=x
   ·obtain ⟨rfl,rfl⟩:=hf;have hv:=Qp5 ⟨q,by omega⟩ hck;simp only [] at hv;rw [hcp,h.out] at hv;have HV:Hid (v=(q:Int)):=Za hv.1;have HB:Hid (b=true):=Za (by rw [<- k.out,hv.1];exact bne_iff_ne.2 (by omega));clear hv HN hcp hck;go_wp2_with fail;((with_reducible refine HC.out.mono ?_));rintro e w1 ⟨rfl,rfl⟩;go_wp2_with fail;go_ret2;rw [HV.out,HB.out];exact ⟨rfl,rfl⟩
   ·have HN2:Hid (∀ j:Nat,1<=j->j<q+1->¬ (Qcv (j:Int)=true/\QbL (j:Int)=x)):=Za (fun j j1 j2=>by
     by_cases hj:j=q
     ·subst hj;rw [hcp,hck];exact hf
     ·exact HN.out j j1 (by omega))
    cases ck with
    | false =>
      clear hcp hck hf;go_wp2_with fail;((with_reducible refine HC.out.mono ?_));rintro e w1 ⟨rfl,rfl⟩;go_wp2_with fail;go_roundw
      case rel=>exact ⟨q+1,by simp,by omega,by omega,HN2,trivial⟩
      case measure=>simp [intOf];omega
    | true =>
      have hne:((cp:Int)==(x:Int))=false:=Zd (by intro h;exact hf ⟨rfl,by omega⟩);clear hcp hck hf;go_wp2_with fail;((with_reducible refine HC.out.mono ?_));rintro e w1 ⟨rfl,rfl⟩;go_wp2_with fail;go_roundw
      case rel=>exact ⟨q+1,by simp,by omega,by omega,HN2,trivial⟩
      case measure=>simp [intOf];omega
  ·have hq':¬ (q:Int)<=88:=by omega
   have hv:v=0:=by
    by_cases hv:v=0
    ·exact hv
    ·exfalso;have hr:=QrW ⟨x,HX.out⟩ (by simp only [];rw [h.out];exact hv);simp only [] at hr;rw [h.out] at hr;have he:((v.toNat:Nat):Int)=v:=by omega
     have hn:=HN.out v.toNat (by omega) (by omega);rw [he] at hn;exact hn ⟨hr.2.2.1,hr.2.2.2⟩
   have HV:=Za hv;have HB:Hid (b=false):=Za (by rw [<- k.out,hv]<;>rfl);clear hv HN;go_wp2_with fail;go_ret2;rw [HV.out,HB.out];exact ⟨rfl,rfl⟩
set_option maxRecDepth 100000 in
theorem QnV (c:UInt8) (w:World):Calls Tryz.prog 158 #[.int .u8 c.toNat] w fun e w'=>e = .returned (.int .i64 (QaP c))/\w=w':=by
 have hx:=c.toNat_lt;have HO:Hid (QaP c=opX c.toNat):=Za rfl;rw [HO.out];generalize c.toNat=x at hx |-;have hx':(x:Int)<256:=by omega
 by_cases h0:x=0
 ·subst h0;go_enter Tryz.func158,Tryz.ntmps158;go_wp2_with fail;go_ret;exact ⟨rfl,rfl⟩
 by_cases h1:x=1
 ·subst h1;go_enter Tryz.func158,Tryz.ntmps158;go_wp2_with fail;go_ret;exact ⟨rfl,rfl⟩
 by_cases h255:x=255
 ·subst h255;go_enter Tryz.func158,Tryz.ntmps158;go_wp2_with fail;go_ret;exact ⟨rfl,rfl⟩
 by_cases h10:x=10
 ·subst h10;go_enter Tryz.func158,Tryz.ntmps158;go_wp2_with fail;go_ret;exact ⟨rfl,rfl⟩
 by_cases h11:x=11
 ·subst h11;go_enter Tryz.func158,Tryz.ntmps158;go_wp2_with fail;go_ret;exact ⟨rfl,rfl⟩
 by_cases h12:x=12
 ·subst h12;go_enter Tryz.func158,Tryz.ntmps158;go_wp2_with fail;go_ret;exact ⟨rfl,rfl⟩
 by_cases h14:x=14
 ·subst h14;go_enter Tryz.func158,Tryz.ntmps158;go_wp2_with fail;go_ret;exact ⟨rfl,rfl⟩
 by_cases h13:x=13
 ·subst h13;go_enter Tryz.func158,Tryz.ntmps158;go_wp2_with fail;go_ret;exact ⟨rfl,rfl⟩
 by_cases h95:x=95
 ·subst h95;go_enter Tryz.func158,Tryz.ntmps158;go_wp2_with fail;go_ret;exact ⟨rfl,rfl⟩
 by_cases h92:x=92
 ·subst h92;go_enter Tryz.func158,Tryz.ntmps158;go_wp2_with fail;go_ret;exact ⟨rfl,rfl⟩
 by_cases h94:x=94
 ·subst h94;go_enter Tryz.func158,Tryz.ntmps158;go_wp2_with fail;go_ret;exact ⟨rfl,rfl⟩
 by_cases h46:x=46
 ·subst h46;go_enter Tryz.func158,Tryz.ntmps158;go_wp2_with fail;go_ret;exact ⟨rfl,rfl⟩
 by_cases h47:x=47
 ·subst h47;go_enter Tryz.func158,Tryz.ntmps158;go_wp2_with fail;go_ret;exact ⟨rfl,rfl⟩
 have b0:((x:Int)==0)=false:=Zd (by omega);have b1:((x:Int)==1)=false:=Zd (by omega);have b255:((x:Int)==255)=false:=Zd (by omega);have b10:((x:Int)==10)=false:=Zd (by omega);have b11:((x:Int)==11)=false:=Zd (by omega);have b12:((x:Int)==12)=false:=Zd (by omega);have b14:((x:Int)==14)=false:=Zd (by omega);have b13:((x:Int)==13)=false:=Zd (by omega);have b95:((x:Int)==95)=false:=Zd (by omega);have b92:((x:Int)==92)=false:=Zd (by omega);have b94:((x:Int)==94)=false:=Zd (by omega);have b46:((x:Int)==46)=false:=Zd (by omega);have b47:((x:Int)==47)=false:=Zd (by omega);by_cases r65:65<=x/\x<=90
 ·have g1:(x:Int)>=65:=by omega
  have g2:(x:Int)<=90:=by omega
  have HE:Hid (opX x=3):=Za (by (unfold opX;repeat' split)<;>omega);rw [HE.out];go_enter Tryz.func158,Tryz.ntmps158;go_wp2_with fail
  all_goals first
   | (exfalso;omega)
   | (go_ret
      exact ⟨rfl,rfl⟩)
 by_cases r96:96<=x/\x<=103
 ·have g1:(x:Int)>=96:=by omega
  have g2:(x:Int)<=103:=by omega
  have HE:Hid (opX x=6):=Za (by (unfold opX;repeat' split)<;>omega);rw [HE.out];go_enter Tryz.func158,Tryz.ntmps158;go_wp2_with fail
  all_goals first
   | (exfalso;omega)
   | (go_ret
      exact ⟨rfl,rfl⟩)
 by_cases r104:104<=x/\x<=110
 ·have g1:(x:Int)>=104:=by omega
  have g2:(x:Int)<=110:=by omega
  have HE:Hid (opX x=7):=Za (by (unfold opX;repeat' split)<;>omega);rw [HE.out];go_enter Tryz.func158,Tryz.ntmps158;go_wp2_with fail
  all_goals first
   | (exfalso;omega)
   | (go_ret
      exact ⟨rfl,rfl⟩)
 have HE:Hid (opX x=opB x):=Za (by (unfold opX;repeat' split)<;>first|rfl|omega);rw [HE.out];obtain ⟨v,hv⟩:∃ v,Hid (opB x=v):=⟨_,Za rfl⟩;obtain ⟨b,hb⟩:∃ b,Hid ((v != 0)=b):=⟨_,Za rfl⟩;have HC:=Za (QuW x hx v b hv hb);rw [hv.out];have n1:¬ (65<=(x:Int)/\(x:Int)<=90):=by omega
 have n2:¬ (96<=(x:Int)/\(x:Int)<104):=by omega
 have n3:¬ (104<=(x:Int)/\(x:Int)<111):=by omega
 go_enter Tryz.func158,Tryz.ntmps158;go_wp2_with (go_at_call 209;((with_reducible refine (HC.out _).mono ?_));rintro e w1 ⟨rfl,rfl⟩)
 all_goals first
  | (exfalso;omega)
  | (go_ret
     exact ⟨rfl,rfl⟩)
theorem Qdf (c:UInt8) (v:Int) (h:Hid (QaP c=v)) (w:World):Calls Tryz.prog 158 #[.int .u8 c.toNat] w fun e w'=>e = .returned (.int .i64 v)/\w=w':=by
 have:=QnV c w;rw [h.out] at this;exact this
end
end Go.Proofs.YtoohondkpddmcaaGreatDoor
