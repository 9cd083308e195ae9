/- Ri -/
import Derived.Test.YtoohondkpddmcaaGreatDoorYzz
import Derived.Test.YtoohondkpddmcaaGreatDoorYaz
import Derived.Test.YtoohondkpddmcaaGreatDoorYat
namespace Go.Proofs.YtoohondkpddmcaaGreatDoor
set_option maxHeartbeats 32000000
set_option linter.unusedVariables false
set_option linter.unusedSimpArgs false
open Go.RowKit
attribute [local go_sem] ByteArray.mk_append_mk Qah Qai Qag
set_option maxRecDepth 100000 in
theorem Qlz (op num:Int) (hop:op=3\/op=5) (str:List UInt8) (pos:Int) (k:UInt8) (w:World) (hs:str.length<=1048576) :
  Calls Tryz.prog 99 #[Qbz op num str pos,.int .u8 k.toNat] w fun e w'=>e = .returned (.bool (num==0&&Qek k str))/\Below w.heap.size w w':=by
 obtain ⟨X,hX⟩:∃ X,Hid ((num==0&&Qek k str)=X):=⟨_,Za rfl⟩;rw [hX.out];have HB0:Hid (Below w.heap.size w (w.alloc (Qae op num str pos))):=Za (Zb.alloc Zc _);have HE0:Hid ((w.alloc (Qae op num str pos)).heap[w.heap.size]?=some (Qae op num str pos)):=Za (heap_alloc_new _ _);obtain ⟨P,hP⟩:∃ P,w.heap.size=P:=⟨_,rfl⟩;have HPE:=Za hP;have HOP:=Za hop;have e12:(op==1)=false/\(op==2)=false:=by constructor<;>(rw [beq_eq_false_iff_ne];omega)
 obtain ⟨e1,e2⟩:=e12;have e35:(op==3)=true\/((op==3)=false/\(op==5)=true):=by
  rcases hop with rfl|rfl
  ·exact .inl rfl
  ·exact .inr ⟨rfl,rfl⟩
 clear hop;unfold Qbz;go_enter Tryz.func99,Tryz.ntmps99;go_upto_region 1 with fail;(try simp only [hP]);rw [hP] at HB0 HE0;generalize w.alloc (Qae op num str pos)=W0 at *;clear hP;obtain ⟨d0,d1,d2,d3⟩:=Qac HE0.out;have HPA:=Za (Qfd str W0 (by omega));unfold Qck QhW at HPA;obtain ⟨O,hO⟩:∃ O,QaW str=O:=⟨_,rfl⟩;obtain ⟨R,hR⟩:∃ R,(QaW str&&QaJ str)=R:=⟨_,rfl⟩;obtain ⟨U,hU⟩:∃ U:Int,(if QaW str=true then (Qbp str:Int) else 0)=U:=⟨_,rfl⟩;obtain ⟨S,hS⟩:∃ S,(if QaW str=true then QaG str else [])=S:=⟨_,rfl⟩;have hFM:O=true->Qdw R U S=str:=by
  intro h;rw [h] at hO;rw [<- hR,<- hU,<- hS,hO];simp only [Bool.true_and,if_true];exact Qto hO
 have hSL:S.length<=32/\∀ x∈S,x.length<=9223372036854775000:=by
  rw [<- hS];by_cases h:QaW str=true
  ·rw [if_pos h];refine ⟨Qh8 h,fun x hx=>?_⟩;have:=Qjx (QbN h x hx);omega
  ·rw [if_neg h];simp
 have hXS:O=true->X=(num==0&&(k != 115||QaV str)):=by
  intro h;rw [h] at hO;rw [<- hX.out];unfold Qek;rw [hO,Bool.true_and,QkQ hO]
 have hXN:O=false->X=false:=by
  intro h;rw [h] at hO;rw [<- hX.out];unfold Qek;rw [hO,Bool.false_and,Bool.and_false]
 rw [hR,hU,hS,hO] at HPA;have HFM:=Za hFM;have HSL:=Za hSL;have HXS:=Za hXS;have HXN:=Za hXN;clear hO hR hU hS hFM hSL hXS hXN hX;rcases e35 with e3|⟨e3,e5⟩
 all_goals
  go_wp2_with fail;((with_reducible refine HPA.out.mono ?_));rintro e w1 ⟨v,rfl,hv,hb1⟩;have HB1:Hid (Below P w w1):=Za (HB0.out.trans (hb1.mono (by have:=HB0.out.size;have:=HPE.out;omega)));have HE1:=Za (Qad HE0.out hb1);have HST:=Za (StrsAt.of_own hv (by have:=HSL.out.1;omega));obtain ⟨va,vc,rfl⟩:=Qcw hv;have hal:Below w1.heap.size w1 (w1.alloc (QgR R U (.slice va S.length vc))):=Zb.alloc Zc _;have HB2:Hid (Below P w (w1.alloc (QgR R U (.slice va S.length vc)))):=Za (HB1.out.trans (hal.mono (by have:=HB1.out.size;have:=HPE.out;omega)));have HE2:=Za (Qad HE1.out hal);have HQ2:=Za (heap_alloc_new w1 (QgR R U (.slice va S.length vc)));have HST2:=Za (HST.out.below hal);have hsz:P<=(w1.alloc (QgR R U (.slice va S.length vc))).heap.size:=by have:=HB2.out.size;have:=HPE.out;omega
  have HSZ:=Za hsz;clear hv hb1 hal HPA HB0 HE0 HB1 HE1 HST d0 d1 d2 d3 hsz;go_upto_region 9 with fail;generalize w1.heap.size=Q at *;generalize w1.alloc (QgR R U (.slice va S.length vc))=W at *;obtain ⟨d0,d1,d2,d3⟩:=Qac HE2.out;obtain ⟨c0,c1,c2⟩:=QaT HQ2.out;cases hn:num==0 with
  | false =>
    have HX:Hid (X=false):=Za (by
     cases O with
     | true=>rw [HXS.out rfl,hn,Bool.false_and]
     | false=>exact HXN.out rfl)
    go_quiet (fail);go_wp2_with fail;go_ret;rw [HX.out,HPE.out];exact ⟨rfl,below_drewN HB2.out _⟩
  | true =>
    cases O with
    | false =>
      have HX:Hid (X=false):=Za (HXN.out rfl);go_quiet (fail);go_wp2_with fail;go_ret;rw [HX.out,HPE.out];exact ⟨rfl,below_drewN HB2.out _⟩
    | true =>
      have HX:Hid (X=(k != 115||QaV str)):=Za (by rw [HXS.out rfl,hn,Bool.true_and]);have HFF:Hid (Qdw R U S=str):=Za (HFM.out rfl);have k1:∀ x,Grows W x->x.cell? ⟨P,1,none⟩=some (.int .u64 num):=fun x hx=>(Qac (Qad HE2.out hx)).2.1;have k2:∀ x,Grows W x->x.cell? ⟨P,2,none⟩=some (.string ⟨str.toArray⟩):=fun x hx=>(Qac (Qad HE2.out hx)).2.2.1;have p0:∀ x,Grows W x->x.cell? ⟨Q,0,none⟩=some (.bool R):=fun x hx=>(QaT (Qad HQ2.out hx)).1;have p1:∀ x,Grows W x->x.cell? ⟨Q,1,none⟩=some (.int .i64 U):=fun x hx=>(QaT (Qad HQ2.out hx)).2.1;have p2:∀ x,Grows W x->x.cell? ⟨Q,2,none⟩=some (.slice va S.length vc):=fun x hx=>(QaT (Qad HQ2.out hx)).2.2;clear d0 d1 d2 d3 c0 c1 c2 HXS HXN HFM;obtain ⟨kb,hkb⟩:∃ z,QaV str=z:=⟨_,rfl⟩;have HSI:=Za (fun w=>Qgx str kb (Za hkb) w (by omega));rw [hkb] at HX;clear hkb;by_cases hk:k=115
      ·subst hk;have HX2:Hid (X=kb):=Za (by rw [HX.out];rfl);refine Qak (Grows _) 22 [.reads [0,1,2,3,4,5,6,7,9,10],.act 8,.reads [11,12,13,14,15,16,17,18],.act 19,.reads [20,21],.act 22] (by kernel_rfl) (by kernel_rfl) (by kernel_rfl) (by kernel_rfl) (by kernel_rfl) (fun _ _ d _ _ h=>by cases d<;>exact h) (Grows.self _) ?_;refine Qaf ?_;simp only [Qab,pQ1,pQ2,pQ3,pQ4,pQ5,pQ6]
       repeat (go_big_quiet_step (first|(intro hb;rw [p0 _ hb];simp only [Result.andThen];rw [p1 _ hb];simp only;rw [p2 _ hb];exact ⟨rfl,rfl⟩)|(intro hb;rw [k1 _ hb];exact ⟨rfl,rfl⟩)|(intro hb;rw [k2 _ hb];exact ⟨rfl,rfl⟩)))
       refine wpQuiet_nil ?_;refine Qaa rfl ?_;simp only [Qab,pQ1,pQ2,pQ3,pQ4,pQ5,pQ6];have HFP:=Za (fun (x:World) (h:Grows W x)=>QdX _ R U S x (PathV.mk (HST2.out.below h)) HSL.out.2);go_wp2_with fail;((with_reducible refine (HFP.out _ (Grows.self _)).mono ?_));rintro e w5 ⟨rfl,hb5⟩;rw [HFF.out];have HG5:=Za ((Grows.self W).trans hb5);clear hb5 HFP;go_wp2_with fail;refine ⟨fun _=>HG5.out,?_⟩;refine Qaf ?_;simp only [Qab,pQ1,pQ2,pQ3,pQ4,pQ5,pQ6]
       repeat (go_big_quiet_step (first|(intro hb;rw [p0 _ hb];simp only [Result.andThen];rw [p1 _ hb];simp only;rw [p2 _ hb];exact ⟨rfl,rfl⟩)|(intro hb;rw [k1 _ hb];exact ⟨rfl,rfl⟩)|(intro hb;rw [k2 _ hb];exact ⟨rfl,rfl⟩)))
       refine wpQuiet_nil ?_;refine Qaa rfl ?_;simp only [Qab,pQ1,pQ2,pQ3,pQ4,pQ5,pQ6];go_wp2_with fail;((with_reducible refine (HSI.out _).mono ?_));rintro e w6 ⟨rfl,rfl⟩;go_wp2_with fail;refine ⟨fun _=>HG5.out,?_⟩;refine Qaf ?_;simp only [Qab,pQ1,pQ2,pQ3,pQ4,pQ5,pQ6]
       repeat (go_big_quiet_step (first|(intro hb;rw [p0 _ hb];simp only [Result.andThen];rw [p1 _ hb];simp only;rw [p2 _ hb];exact ⟨rfl,rfl⟩)|(intro hb;rw [k1 _ hb];exact ⟨rfl,rfl⟩)|(intro hb;rw [k2 _ hb];exact ⟨rfl,rfl⟩)))
       refine wpQuiet_nil ?_;refine Qaa rfl ?_;simp only [Qab,pQ1,pQ2,pQ3,pQ4,pQ5,pQ6];go_wp2_with fail;refine ⟨fun h=>absurd h (by decide),Qat ?_⟩;go_wp2_with fail;go_ret;rw [HX2.out,HPE.out];exact ⟨rfl,Qar HB2.out (Nat.le_of_eq HPE.out.symm) HG5.out⟩
      ·have hkk:((k.toNat:Int) != 115)=true:=by
        have:=Qao k 115;rw [bne,show (115:Int)=((115:UInt8).toNat:Int) from rfl,this,Zd hk];rfl
       have HX2:Hid (X=true):=Za (by rw [HX.out,bne_iff_ne.2 hk];rfl);refine Qak (Grows _) 22 [.reads [0,1,2,3,4,5,6,7,9,10],.act 8,.reads [11,12,13,14,15,16,17,18],.act 19,.reads [20,21],.act 22] (by kernel_rfl) (by kernel_rfl) (by kernel_rfl) (by kernel_rfl) (by kernel_rfl) (fun _ _ d _ _ h=>by cases d<;>exact h) (Grows.self _) ?_;refine Qaf ?_;simp only [Qab,pQ1,pQ2,pQ3,pQ4,pQ5,pQ6]
       repeat (go_big_quiet_step (first|(intro hb;rw [p0 _ hb];simp only [Result.andThen];rw [p1 _ hb];simp only;rw [p2 _ hb];exact ⟨rfl,rfl⟩)|(intro hb;rw [k1 _ hb];exact ⟨rfl,rfl⟩)|(intro hb;rw [k2 _ hb];exact ⟨rfl,rfl⟩)))
       refine wpQuiet_nil ?_;refine Qaa rfl ?_;simp only [Qab,pQ1,pQ2,pQ3,pQ4,pQ5,pQ6];have HFP:=Za (fun (x:World) (h:Grows W x)=>QdX _ R U S x (PathV.mk (HST2.out.below h)) HSL.out.2);go_wp2_with fail;((with_reducible refine (HFP.out _ (Grows.self _)).mono ?_));rintro e w5 ⟨rfl,hb5⟩;rw [HFF.out];have HG5:=Za ((Grows.self W).trans hb5);clear hb5 HFP;go_wp2_with fail;refine ⟨fun _=>HG5.out,?_⟩;refine Qaf ?_;simp only [Qab,pQ1,pQ2,pQ3,pQ4,pQ5,pQ6]
       repeat (go_big_quiet_step (first|(intro hb;rw [p0 _ hb];simp only [Result.andThen];rw [p1 _ hb];simp only;rw [p2 _ hb];exact ⟨rfl,rfl⟩)|(intro hb;rw [k1 _ hb];exact ⟨rfl,rfl⟩)|(intro hb;rw [k2 _ hb];exact ⟨rfl,rfl⟩)))
       refine wpQuiet_nil ?_;refine Qaa rfl ?_;simp only [Qab,pQ1,pQ2,pQ3,pQ4,pQ5,pQ6];go_wp2_with fail;refine ⟨fun _=>HG5.out,?_⟩;refine Qaf ?_;simp only [Qab,pQ1,pQ2,pQ3,pQ4,pQ5,pQ6]
       repeat (go_big_quiet_step (first|(intro hb;rw [p0 _ hb];simp only [Result.andThen];rw [p1 _ hb];simp only;rw [p2 _ hb];exact ⟨rfl,rfl⟩)|(intro hb;rw [k1 _ hb];exact ⟨rfl,rfl⟩)|(intro hb;rw [k2 _ hb];exact ⟨rfl,rfl⟩)))
       refine wpQuiet_nil ?_;refine Qaa rfl ?_;simp only [Qab,pQ1,pQ2,pQ3,pQ4,pQ5,pQ6];go_wp2_with fail;refine ⟨fun h=>absurd h (by decide),Qat ?_⟩;go_wp2_with fail;go_ret;rw [HX2.out,HPE.out];exact ⟨rfl,Qar HB2.out (Nat.le_of_eq HPE.out.symm) HG5.out⟩
set_option maxRecDepth 100000 in
theorem Qkf (op num:Int) (h3:op≠3) (h5:op≠5) (h0:0<=num) (str:List UInt8) (pos:Int) (k:UInt8) (w:World) (hs:str.length<=1048576) :
  Calls Tryz.prog 99 #[Qbz op num str pos,.int .u8 k.toNat] w fun e w'=>e = .returned (.bool (Qbg ⟨op,num,str,pos⟩ k))/\Below w.heap.size w w':=by
 obtain ⟨X,hX⟩:∃ X,Hid (Qbg ⟨op,num,str,pos⟩ k=X):=⟨_,Za rfl⟩;rw [hX.out];have hx:=hX.out;unfold Qbg at hx;simp only [h3,h5,or_self,if_false] at hx;rw [show (str==[])=str.isEmpty by cases str<;>rfl] at hx;have HB0:Hid (Below w.heap.size w (w.alloc (Qae op num str pos))):=Za (Zb.alloc Zc _);have HE0:Hid ((w.alloc (Qae op num str pos)).heap[w.heap.size]?=some (Qae op num str pos)):=Za (heap_alloc_new _ _);obtain ⟨P,hP⟩:∃ P,w.heap.size=P:=⟨_,rfl⟩;have HPE:=Za hP;have e3:(op==3)=false:=Zd h3;have e5:(op==5)=false:=Zd h5;unfold Qbz;go_enter Tryz.func99,Tryz.ntmps99;go_upto_region 1 with fail;(try simp only [hP]);rw [hP] at HB0 HE0;generalize w.alloc (Qae op num str pos)=W0 at *;clear hP;obtain ⟨d0,d1,d2,d3⟩:=Qac HE0.out;have hsz:(str.length:Int)<=1048576:=by omega
 obtain ⟨sb,hsb⟩:∃ z,str.isEmpty=z:=⟨_,rfl⟩;obtain ⟨nb,hnb⟩:∃ z,(num==0)=z:=⟨_,rfl⟩;by_cases c1:op=1
 ·subst c1;simp only [if_true,show ((1:Int)=2)=False by decide,if_false,Bool.true_and] at hx;have HX:=Za hx;clear hx h3 h5 hX hsb hnb;go_wp2_with fail;go_ret;rw [<- HX.out,HPE.out];exact ⟨rfl,HB0.out⟩
 have f1:(op==1)=false:=Zd c1;by_cases c2:op=2
 ·subst c2;simp only [show ((2:Int)=1)=False by decide,show ((2:Int)=6)=False by decide,show ((2:Int)=7)=False by decide,if_true,if_false] at hx;rw [hnb] at hx;have HX:=Za hx;clear hx h3 h5 hX hsb c1;cases nb
  all_goals
   go_wp2_with fail;go_ret;rw [<- HX.out,HPE.out];exact ⟨Qby (by first|(simp;done)|(simp;omega)),HB0.out⟩
 have f2:(op==2)=false:=Zd c2;by_cases c6:op=6
 ·subst c6;simp only [show ((6:Int)=1)=False by decide,show ((6:Int)=2)=False by decide,if_true,if_false] at hx;rw [hsb] at hx;have HX:=Za hx;clear hx h3 h5 hX hnb c1 c2;cases sb
  all_goals
   go_wp2_with fail;go_ret;rw [<- HX.out,HPE.out];exact ⟨Qby (by simp),HB0.out⟩
 have f6:(op==6)=false:=Zd c6;by_cases c7:op=7
 ·subst c7;simp only [show ((7:Int)=1)=False by decide,show ((7:Int)=2)=False by decide,show ((7:Int)=6)=False by decide,if_true,if_false] at hx;rw [hsb] at hx;have HX:=Za hx;clear hx h3 h5 hX hnb c1 c2 c6;cases sb
  all_goals
   go_wp2_with fail;go_ret;rw [<- HX.out,HPE.out];exact ⟨Qby (by simp),HB0.out⟩
 have f7:(op==7)=false:=Zd c7;simp only [c1,c2,c6,c7,if_false] at hx;rw [hnb,hsb] at hx;have HX:=Za hx;clear hx h3 h5 hX c1 c2 c6 c7;cases nb
 all_goals
  go_wp2_with fail;go_ret;rw [<- HX.out,HPE.out];exact ⟨Qby (by first|(simp [hsb];done)|(cases sb<;>simp [hsb])),HB0.out⟩
theorem Qms (n:Nd) (h0:0<=n.num) (k:UInt8) (w:World) (hs:n.str.length<=1048576) :
  Calls Tryz.prog 99 #[Qbz n.kind n.num n.str n.pos,.int .u8 k.toNat] w fun e w'=>e = .returned (.bool (Qbg n k))/\Below w.heap.size w w':=by
 obtain ⟨op,num,str,pos⟩:=n;by_cases h:op=3\/op=5
 ·have:=Qlz op num h str pos k w hs;rw [show Qbg ⟨op,num,str,pos⟩ k=(num==0&&Qek k str) by
   unfold Qbg;simp only [h,if_true];rw [if_neg (by omega),if_neg (by omega),if_neg (by omega)]]
  exact this
 ·exact Qkf op num (by omega) (by omega) h0 str pos k w hs
theorem QjD (n:Nd) (h0:0<=n.num) (k:UInt8) (b:Bool) (H:Hid (Qbg n k=b)) (w:World) (hs:n.str.length<=1048576) :
  Calls Tryz.prog 99 #[Qbz n.kind n.num n.str n.pos,.int .u8 k.toNat] w fun e w'=>e = .returned (.bool b)/\Below w.heap.size w w':=by
 have:=Qms n h0 k w hs;rw [H.out] at this;exact this
end Go.Proofs.YtoohondkpddmcaaGreatDoor
