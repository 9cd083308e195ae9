/- Rh Ri Rr -/
import Derived.Test.YtoohondkpddmcaaGreatDoorUzz
import Derived.Test.YtoohondkpddmcaaGreatDoorUau
import Derived.Test.YtoohondkpddmcaaGreatDoorUaj
import Derived.Test.YtoohondkpddmcaaGreatDoorUaq
namespace Go.Proofs.YtoohondkpddmcaaGreatDoor
set_option maxHeartbeats 32000000
set_option linter.unusedVariables false
set_option linter.unusedSimpArgs false
section
open Go.RowKit
attribute [local go_sem] ByteArray.mk_append_mk Qac Qad Qae
def Qc5 (op kids:Int):List UInt8×Bool :=
 if op=1\/op=2\/op=3\/op=6\/op=7 then ([],kids==0)
 else if op=5 then (if kids<0\/7<kids then ([],false) else (List.replicate kids.toNat 101,true))
 else if op=31/\kids=3 then ([101,83,83],true)
 else if op=33/\kids=1 then ([101],true)
 else ((QgP (Qk3 op)).2.2,(Qk3 op).isSome&&(((QgP (Qk3 op)).2.2.length:Int)==kids))
def inR (op:Int):Bool:=op==1||op==2||op==3||op==5||op==6||op==7||Qft op
theorem QiE {k:UInt8} {op:Int} (h:Qar k op=true):inR op=true:=by
 unfold Qar Qeb QcR Qcm at h;unfold inR Qft
 repeat' split at h
 all_goals
  simp only [Bool.or_eq_true,Bool.and_eq_true,Bool.not_eq_true',Bool.or_eq_false_iff,decide_eq_true_eq,beq_iff_eq,beq_eq_false_iff_ne,Bool.false_eq_true] at h |-
  try omega
theorem QjG (n:Nd) (h:inR n.kind=true):QbH n=if (Qc5 n.kind n.pos).2=true then some (Qc5 n.kind n.pos).1 else none:=by
 unfold QbH Qc5;by_cases h5:n.kind=5
 ·rw [h5];simp only [show ((5:Int)=1\/(5:Int)=2\/(5:Int)=3\/(5:Int)=6\/(5:Int)=7)=False by decide,if_true,if_false];by_cases hk:0<=n.pos/\n.pos<=7
  ·rw [if_pos hk,if_neg (show ¬ (n.pos<0\/7<n.pos) by omega)];rfl
  ·rw [if_neg hk,if_pos (show n.pos<0\/7<n.pos by omega)];rfl
 rw [if_neg h5];by_cases hL:n.kind=1\/n.kind=2\/n.kind=3\/n.kind=6\/n.kind=7
 ·rw [if_pos hL,if_neg (by omega),if_neg (by omega)];have e:QaE n.kind=([],[]):=by rcases hL with h|h|h|h|h<;>rw [h]<;>rfl
  rw [e];simp only [List.length_nil,beq_iff_eq];by_cases hp:n.pos=0
  ·rw [if_pos hp,if_pos (by rw [hp]<;>rfl)]
  ·rw [if_neg hp,if_neg (by intro e;exact hp e.symm)]
 rw [if_neg hL,if_neg h5];have ht:Qft n.kind=true:=by
  unfold inR at h;simp only [Bool.or_eq_true,beq_iff_eq] at h;rcases h with h|h
  ·omega
  ·exact h
 rw [Qk4 ht];simp only [QgP,Option.isSome_some,Bool.true_and];by_cases h33:n.kind=33
 ·rw [h33];have e:QaE 33=([82,101,116,117,114,110],[]):=by decide +kernel
  simp only [e,show ((33:Int)=31)=False by decide,false_and,if_false,if_true,true_and,List.length_nil];by_cases h1:n.pos=1
  ·rw [if_pos (by omega),if_pos h1,h1];rfl
  ·rw [if_neg h1];by_cases h0:n.pos=0
   ·rw [if_pos (by omega),h0];rfl
   ·rw [if_neg (by omega),if_neg (by simp only [beq_iff_eq];omega)]
 rw [if_neg h33];simp only [show (n.kind=33)=False from eq_false h33,false_and,if_false];by_cases h31:n.kind=31/\n.pos=3
 ·rw [if_pos h31,if_pos h31];rfl
 ·rw [if_neg h31,if_neg h31];by_cases hl:((QaE n.kind).2.length:Int)=n.pos
  ·rw [if_pos hl,if_pos (by simp only [beq_iff_eq];exact hl)]
  ·rw [if_neg hl,if_neg (by simp only [beq_iff_eq];exact hl)]
theorem Qk6:∀ t∈rowsL,t.2.2.length<=5:=by decide +kernel
set_option maxRecDepth 100000 in
theorem QrU (op kids:Int) (w:World):Calls Tryz.prog 59 #[.int .i64 op,.int .i64 kids] w fun e w'=>e = .returned (.tuple #[.string ⟨(Qc5 op kids).1.toArray⟩,.bool (Qc5 op kids).2])/\Below w.heap.size w w':=by
 obtain ⟨X,hX⟩:∃ X,Hid (Qc5 op kids=X):=⟨_,Za rfl⟩;rw [hX.out];have hx:=hX.out;unfold Qc5 at hx;have HB0:=Za (Below.refl w.heap.size w);by_cases hL:op=1\/op=2\/op=3\/op=6\/op=7
 ·rw [if_pos hL] at hx;have HX:=Za hx;clear hx;rcases hL with rfl|rfl|rfl|rfl|rfl
  all_goals
   go_enter Tryz.func59,Tryz.ntmps59;go_wp2_with fail;go_ret2;rw [<- HX.out];exact ⟨rfl,HB0.out⟩
 rw [if_neg hL] at hx;by_cases h5:op=5
 ·rw [if_pos h5] at hx;subst h5;by_cases hk:kids<0\/7<kids
  ·rw [if_pos hk] at hx;have HX:=Za hx;clear hx hL;rcases hk with hk|hk
   all_goals
    go_enter Tryz.func59,Tryz.ntmps59;go_wp2_with fail;go_ret2;rw [<- HX.out];exact ⟨rfl,HB0.out⟩
  ·rw [if_neg hk] at hx;obtain ⟨n,rfl⟩:∃ n:Nat,kids=n:=⟨kids.toNat,by omega⟩;have hn:n<=7:=by omega
   have hn':¬ (n:Int)<0:=by omega
   have hn2:¬ (7:Int)<(n:Int):=by omega
   have HE:Hid (List.take n [101,101,101,101,101,101,101]=List.replicate n (101:UInt8)):=Za (by
    match n,hn with
    | 0,_=>rfl
    | 1,_=>rfl
    | 2,_=>rfl
    | 3,_=>rfl
    | 4,_=>rfl
    | 5,_=>rfl
    | 6,_=>rfl
    | 7,_=>rfl)
   have HX:=Za hx;clear hx hL hk;go_enter Tryz.func59,Tryz.ntmps59;go_wp2_with fail;go_ret2;rw [<- HX.out];refine ⟨?_,HB0.out⟩;rw [HE.out]<;>rfl
 rw [if_neg h5] at hx;have e1:(op==1)=false:=by rw [beq_eq_false_iff_ne];omega
 have e2:(op==2)=false:=by rw [beq_eq_false_iff_ne];omega
 have e3:(op==3)=false:=by rw [beq_eq_false_iff_ne];omega
 have e6:(op==6)=false:=by rw [beq_eq_false_iff_ne];omega
 have e7:(op==7)=false:=by rw [beq_eq_false_iff_ne];omega
 have e5:(op==5)=false:=by rw [beq_eq_false_iff_ne];omega
 by_cases h31:op=31/\kids=3
 ·rw [if_pos h31] at hx;obtain ⟨rfl,rfl⟩:=h31;have HX:=Za hx;clear hx hL h5;go_enter Tryz.func59,Tryz.ntmps59;go_wp2_with fail;go_ret2;rw [<- HX.out];exact ⟨rfl,HB0.out⟩
 rw [if_neg h31] at hx;by_cases h33:op=33/\kids=1
 ·rw [if_pos h33] at hx;obtain ⟨rfl,rfl⟩:=h33;have HX:=Za hx;clear hx hL h5 h31;go_enter Tryz.func59,Tryz.ntmps59;go_wp2_with fail;go_ret2;rw [<- HX.out];exact ⟨rfl,HB0.out⟩
 rw [if_neg h33] at hx;have HRO:=Za (Qmw op w);obtain ⟨R,hR⟩:∃ R,Qk3 op=R:=⟨_,rfl⟩;rw [hR] at HRO hx;obtain ⟨s,hs⟩:∃ s,(QgP R).2.2=s:=⟨_,rfl⟩;have hsl:s.length<=1000:=by
  rw [<- hs,<- hR];unfold Qk3;cases hf:rowsL.find? (fun t=>t.1==op) with
  | none=>simp [QgP]
  | some t=>exact Nat.le_trans (Qk6 t (List.mem_of_find?_eq_some hf)) (by omega)
 obtain ⟨a,b,hab⟩:∃ a b,QgP R=(a,b,s):=⟨(QgP R).1,(QgP R).2.1,by rw [<- hs]⟩;obtain ⟨ok,hok⟩:∃ ok,R.isSome=ok:=⟨_,rfl⟩;rw [hs,hok] at hx;rw [hab,hok] at HRO;have HX:=Za hx;clear hx hR hs hab hok;have hcase:(op=31/\kids≠3)\/(op=33/\kids≠1)\/(op≠31/\op≠33):=by omega
 clear hL h5 h31 h33;have hfin:((op==31)=true/\(kids==3)=false)\/((op==33)=true/\(op==31)=false/\(kids==1)=false)\/((op==31)=false/\(op==33)=false):=by
  rcases hcase with ⟨h1,h2⟩|⟨h1,h2⟩|⟨h1,h2⟩
  ·exact .inl ⟨by rw [h1];rfl,Zd h2⟩
  ·exact .inr (.inl ⟨by rw [h1];rfl,by rw [h1];rfl,Zd h2⟩)
  ·exact .inr (.inr ⟨Zd h1,Zd h2⟩)
 clear hcase;rcases hfin with ⟨t1,t2⟩|⟨t1,t2,t3⟩|⟨t1,t2⟩
 all_goals
  go_enter Tryz.func59,Tryz.ntmps59;go_wp2_with fail;((with_reducible refine HRO.out.mono ?_));rintro e w1 ⟨rfl,hb1⟩;have HB1:Hid (Below w.heap.size w (w1.alloc (QbN a b s))):=Za (hb1.alloc hb1.size _);have hcell:=heap_alloc_new w1 (QbN a b s);clear hb1 HRO;go_upto_region 19 with fail;obtain ⟨d0,d1,d2⟩:=Qa4 hcell;generalize w1.alloc (QbN a b s)=W at *;clear hcell;cases ok
  all_goals
   go_quiet (fail);go_wp2_with fail;go_ret2;rw [<- HX.out];exact ⟨rfl,below_drewN HB1.out _⟩
theorem Qom (op kids:Int) (ks:List UInt8) (ok:Bool) (H:Hid (Qc5 op kids=(ks,ok))) (w:World):Calls Tryz.prog 59 #[.int .i64 op,.int .i64 kids] w fun e w'=>e = .returned (.tuple #[.string ⟨ks.toArray⟩,.bool ok])/\Below w.heap.size w w':=by
 have:=QrU op kids w;rw [H.out] at this;exact this
end
section
open Go.RowKit
attribute [local go_sem] ByteArray.mk_append_mk Qac Qad Qae
set_option maxRecDepth 100000 in
theorem Qnk (op num:Int) (hop:op=3\/op=5) (str:List UInt8) (pos:Int) (k:UInt8) (w:World) (hs:str.length<=1048576) :
  Calls Tryz.prog 99 #[QbB op num str pos,.int .u8 k.toNat] w fun e w'=>e = .returned (.bool (num==0&&Qec k str))/\Below w.heap.size w w':=by
 obtain ⟨X,hX⟩:∃ X,Hid ((num==0&&Qec k str)=X):=⟨_,Za rfl⟩;rw [hX.out];have HB0:Hid (Below w.heap.size w (w.alloc (Qaj op num str pos))):=Za (Zb.alloc Zc _);have HE0:Hid ((w.alloc (Qaj op num str pos)).heap[w.heap.size]?=some (Qaj op num str pos)):=Za (heap_alloc_new _ _);obtain ⟨P,hP⟩:∃ P,w.heap.size=P:=⟨_,rfl⟩;have HPE:=Za hP;have HOP:=Za hop;have e12:(op==1)=false/\(op==2)=false:=by constructor<;>(rw [beq_eq_false_iff_ne];omega)
 obtain ⟨e1,e2⟩:=e12;have e35:(op==3)=true\/((op==3)=false/\(op==5)=true):=by
  rcases hop with rfl|rfl
  ·exact .inl rfl
  ·exact .inr ⟨rfl,rfl⟩
 clear hop;unfold QbB;go_enter Tryz.func99,Tryz.ntmps99;go_upto_region 1 with fail;(try simp only [hP]);rw [hP] at HB0 HE0;generalize w.alloc (Qaj op num str pos)=W0 at *;clear hP;obtain ⟨d0,d1,d2,d3⟩:=Qaa HE0.out;have HPA:=Za (Qga str W0 (by omega));unfold Qct Qjt at HPA;obtain ⟨O,hO⟩:∃ O,QaY str=O:=⟨_,rfl⟩;obtain ⟨R,hR⟩:∃ R,(QaY str&&QaO str)=R:=⟨_,rfl⟩;obtain ⟨U,hU⟩:∃ U:Int,(if QaY str=true then (Qbm str:Int) else 0)=U:=⟨_,rfl⟩;obtain ⟨S,hS⟩:∃ S,(if QaY str=true then QaF str else [])=S:=⟨_,rfl⟩;have hFM:O=true->QdR R U S=str:=by
  intro h;rw [h] at hO;rw [<- hR,<- hU,<- hS,hO];simp only [Bool.true_and,if_true];exact Qni hO
 have hSL:S.length<=32/\∀ x∈S,x.length<=9223372036854775000:=by
  rw [<- hS];by_cases h:QaY str=true
  ·rw [if_pos h];refine ⟨QjD h,fun x hx=>?_⟩;have:=Qk0 (QbM h x hx);omega
  ·rw [if_neg h];simp
 have hXS:O=true->X=(num==0&&(k != 115||Qa2 str)):=by
  intro h;rw [h] at hO;rw [<- hX.out];unfold Qec;rw [hO,Bool.true_and,Qmt hO]
 have hXN:O=false->X=false:=by
  intro h;rw [h] at hO;rw [<- hX.out];unfold Qec;rw [hO,Bool.false_and,Bool.and_false]
 rw [hR,hU,hS,hO] at HPA;have HFM:=Za hFM;have HSL:=Za hSL;have HXS:=Za hXS;have HXN:=Za hXN;clear hO hR hU hS hFM hSL hXS hXN hX;rcases e35 with e3|⟨e3,e5⟩
 all_goals
  go_wp2_with fail;((with_reducible refine HPA.out.mono ?_));rintro e w1 ⟨v,rfl,hv,hb1⟩;have HB1:Hid (Below P w w1):=Za (HB0.out.trans (hb1.mono (by have:=HB0.out.size;have:=HPE.out;omega)));have HE1:=Za (Qab HE0.out hb1);have HST:=Za (StrsAt.of_own hv (by have:=HSL.out.1;omega));obtain ⟨va,vc,rfl⟩:=QcG hv;have hal:Below w1.heap.size w1 (w1.alloc (QjR R U (.slice va S.length vc))):=Zb.alloc Zc _;have HB2:Hid (Below P w (w1.alloc (QjR R U (.slice va S.length vc)))):=Za (HB1.out.trans (hal.mono (by have:=HB1.out.size;have:=HPE.out;omega)));have HE2:=Za (Qab HE1.out hal);have HQ2:=Za (heap_alloc_new w1 (QjR R U (.slice va S.length vc)));have HST2:=Za (HST.out.below hal);have hsz:P<=(w1.alloc (QjR R U (.slice va S.length vc))).heap.size:=by have:=HB2.out.size;have:=HPE.out;omega
  have HSZ:=Za hsz;clear hv hb1 hal HPA HB0 HE0 HB1 HE1 HST d0 d1 d2 d3 hsz;go_upto_region 9 with fail;generalize w1.heap.size=Q at *;generalize w1.alloc (QjR R U (.slice va S.length vc))=W at *;obtain ⟨d0,d1,d2,d3⟩:=Qaa HE2.out;obtain ⟨c0,c1,c2⟩:=Qa4 HQ2.out;cases hn:num==0 with
  | false =>
    have HX:Hid (X=false):=Za (by
     cases O with
     | true=>rw [HXS.out rfl,hn,Bool.false_and]
     | false=>exact HXN.out rfl)
    go_quiet (fail);go_wp2_with fail;go_ret;rw [HX.out,HPE.out];exact ⟨rfl,below_drewN HB2.out _⟩
  | true =>
    cases O with
    | false =>
      have HX:Hid (X=false):=Za (HXN.out rfl);go_quiet (fail);go_wp2_with fail;go_ret;rw [HX.out,HPE.out];exact ⟨rfl,below_drewN HB2.out _⟩
    | true =>
      have HX:Hid (X=(k != 115||Qa2 str)):=Za (by rw [HXS.out rfl,hn,Bool.true_and]);have HFF:Hid (QdR R U S=str):=Za (HFM.out rfl);have k1:∀ x,Grows W x->x.cell? ⟨P,1,none⟩=some (.int .u64 num):=fun x hx=>(Qaa (Qab HE2.out hx)).2.1;have k2:∀ x,Grows W x->x.cell? ⟨P,2,none⟩=some (.string ⟨str.toArray⟩):=fun x hx=>(Qaa (Qab HE2.out hx)).2.2.1;have p0:∀ x,Grows W x->x.cell? ⟨Q,0,none⟩=some (.bool R):=fun x hx=>(Qa4 (Qab HQ2.out hx)).1;have p1:∀ x,Grows W x->x.cell? ⟨Q,1,none⟩=some (.int .i64 U):=fun x hx=>(Qa4 (Qab HQ2.out hx)).2.1;have p2:∀ x,Grows W x->x.cell? ⟨Q,2,none⟩=some (.slice va S.length vc):=fun x hx=>(Qa4 (Qab HQ2.out hx)).2.2;clear d0 d1 d2 d3 c0 c1 c2 HXS HXN HFM;obtain ⟨kb,hkb⟩:∃ z,Qa2 str=z:=⟨_,rfl⟩;have HSI:=Za (fun w=>Qh0 str kb (Za hkb) w (by omega));rw [hkb] at HX;clear hkb;by_cases hk:k=115
      ·subst hk;have HX2:Hid (X=kb):=Za (by rw [HX.out]<;>rfl);refine QaI (Grows _) 22 [.reads [0,1,2,3,4,5,6,7,9,10],.act 8,.reads [11,12,13,14,15,16,17,18],.act 19,.reads [20,21],.act 22] (by kernel_rfl) (by kernel_rfl) (by kernel_rfl) (by kernel_rfl) (by kernel_rfl) (fun _ _ d _ _ h=>by cases d<;>exact h) (Grows.self _) ?_;refine Qas ?_;simp only [Qaf,pQ1,pQ2,pQ3,pQ4,pQ5,pQ6]
       repeat (go_big_quiet_step (first|(intro hb;rw [p0 _ hb];simp only [Result.andThen];rw [p1 _ hb];simp only;rw [p2 _ hb];exact ⟨rfl,rfl⟩)|(intro hb;rw [k1 _ hb];exact ⟨rfl,rfl⟩)|(intro hb;rw [k2 _ hb];exact ⟨rfl,rfl⟩)))
       refine wpQuiet_nil ?_;refine Qai rfl ?_;simp only [Qaf,pQ1,pQ2,pQ3,pQ4,pQ5,pQ6];have HFP:=Za (fun (x:World) (h:Grows W x)=>QgE _ R U S x (PathV.mk (HST2.out.below h)) HSL.out.2);go_wp2_with fail;((with_reducible refine (HFP.out _ (Grows.self _)).mono ?_));rintro e w5 ⟨rfl,hb5⟩;rw [HFF.out];have HG5:=Za ((Grows.self W).trans hb5);clear hb5 HFP;go_wp2_with fail;refine ⟨fun _=>HG5.out,?_⟩;refine Qas ?_;simp only [Qaf,pQ1,pQ2,pQ3,pQ4,pQ5,pQ6]
       repeat (go_big_quiet_step (first|(intro hb;rw [p0 _ hb];simp only [Result.andThen];rw [p1 _ hb];simp only;rw [p2 _ hb];exact ⟨rfl,rfl⟩)|(intro hb;rw [k1 _ hb];exact ⟨rfl,rfl⟩)|(intro hb;rw [k2 _ hb];exact ⟨rfl,rfl⟩)))
       refine wpQuiet_nil ?_;refine Qai rfl ?_;simp only [Qaf,pQ1,pQ2,pQ3,pQ4,pQ5,pQ6];go_wp2_with fail;((with_reducible refine (HSI.out _).mono ?_));rintro e w6 ⟨rfl,rfl⟩;go_wp2_with fail;refine ⟨fun _=>HG5.out,?_⟩;refine Qas ?_;simp only [Qaf,pQ1,pQ2,pQ3,pQ4,pQ5,pQ6]
       repeat (go_big_quiet_step (first|(intro hb;rw [p0 _ hb];simp only [Result.andThen];rw [p1 _ hb];simp only;rw [p2 _ hb];exact ⟨rfl,rfl⟩)|(intro hb;rw [k1 _ hb];exact ⟨rfl,rfl⟩)|(intro hb;rw [k2 _ hb];exact ⟨rfl,rfl⟩)))
       refine wpQuiet_nil ?_;refine Qai rfl ?_;simp only [Qaf,pQ1,pQ2,pQ3,pQ4,pQ5,pQ6];go_wp2_with fail;refine ⟨fun h=>absurd h (by decide),Qbb ?_⟩;go_wp2_with fail;go_ret;rw [HX2.out,HPE.out];exact ⟨rfl,Qah HB2.out (Nat.le_of_eq HPE.out.symm) HG5.out⟩
      ·have hkk:((k.toNat:Int) != 115)=true:=by
        have:=Qao k 115;rw [bne,show (115:Int)=((115:UInt8).toNat:Int) from rfl,this,Zd hk]<;>rfl
       have HX2:Hid (X=true):=Za (by rw [HX.out,bne_iff_ne.2 hk]<;>rfl);refine QaI (Grows _) 22 [.reads [0,1,2,3,4,5,6,7,9,10],.act 8,.reads [11,12,13,14,15,16,17,18],.act 19,.reads [20,21],.act 22] (by kernel_rfl) (by kernel_rfl) (by kernel_rfl) (by kernel_rfl) (by kernel_rfl) (fun _ _ d _ _ h=>by cases d<;>exact h) (Grows.self _) ?_;refine Qas ?_;simp only [Qaf,pQ1,pQ2,pQ3,pQ4,pQ5,pQ6]
       repeat (go_big_quiet_step (first|(intro hb;rw [p0 _ hb];simp only [Result.andThen];rw [p1 _ hb];simp only;rw [p2 _ hb];exact ⟨rfl,rfl⟩)|(intro hb;rw [k1 _ hb];exact ⟨rfl,rfl⟩)|(intro hb;rw [k2 _ hb];exact ⟨rfl,rfl⟩)))
       refine wpQuiet_nil ?_;refine Qai rfl ?_;simp only [Qaf,pQ1,pQ2,pQ3,pQ4,pQ5,pQ6];have HFP:=Za (fun (x:World) (h:Grows W x)=>QgE _ R U S x (PathV.mk (HST2.out.below h)) HSL.out.2);go_wp2_with fail;((with_reducible refine (HFP.out _ (Grows.self _)).mono ?_));rintro e w5 ⟨rfl,hb5⟩;rw [HFF.out];have HG5:=Za ((Grows.self W).trans hb5);clear hb5 HFP;go_wp2_with fail;refine ⟨fun _=>HG5.out,?_⟩;refine Qas ?_;simp only [Qaf,pQ1,pQ2,pQ3,pQ4,pQ5,pQ6]
       repeat (go_big_quiet_step (first|(intro hb;rw [p0 _ hb];simp only [Result.andThen];rw [p1 _ hb];simp only;rw [p2 _ hb];exact ⟨rfl,rfl⟩)|(intro hb;rw [k1 _ hb];exact ⟨rfl,rfl⟩)|(intro hb;rw [k2 _ hb];exact ⟨rfl,rfl⟩)))
       refine wpQuiet_nil ?_;refine Qai rfl ?_;simp only [Qaf,pQ1,pQ2,pQ3,pQ4,pQ5,pQ6];go_wp2_with fail;refine ⟨fun _=>HG5.out,?_⟩;refine Qas ?_;simp only [Qaf,pQ1,pQ2,pQ3,pQ4,pQ5,pQ6]
       repeat (go_big_quiet_step (first|(intro hb;rw [p0 _ hb];simp only [Result.andThen];rw [p1 _ hb];simp only;rw [p2 _ hb];exact ⟨rfl,rfl⟩)|(intro hb;rw [k1 _ hb];exact ⟨rfl,rfl⟩)|(intro hb;rw [k2 _ hb];exact ⟨rfl,rfl⟩)))
       refine wpQuiet_nil ?_;refine Qai rfl ?_;simp only [Qaf,pQ1,pQ2,pQ3,pQ4,pQ5,pQ6];go_wp2_with fail;refine ⟨fun h=>absurd h (by decide),Qbb ?_⟩;go_wp2_with fail;go_ret;rw [HX2.out,HPE.out];exact ⟨rfl,Qah HB2.out (Nat.le_of_eq HPE.out.symm) HG5.out⟩
set_option maxRecDepth 100000 in
theorem QlO (op num:Int) (h3:op≠3) (h5:op≠5) (h0:0<=num) (str:List UInt8) (pos:Int) (k:UInt8) (w:World) (hs:str.length<=1048576) :
  Calls Tryz.prog 99 #[QbB op num str pos,.int .u8 k.toNat] w fun e w'=>e = .returned (.bool (Qa5 ⟨op,num,str,pos⟩ k))/\Below w.heap.size w w':=by
 obtain ⟨X,hX⟩:∃ X,Hid (Qa5 ⟨op,num,str,pos⟩ k=X):=⟨_,Za rfl⟩;rw [hX.out];have hx:=hX.out;unfold Qa5 at hx;simp only [h3,h5,or_self,if_false] at hx;rw [show (str==[])=str.isEmpty by cases str<;>rfl] at hx;have HB0:Hid (Below w.heap.size w (w.alloc (Qaj op num str pos))):=Za (Zb.alloc Zc _);have HE0:Hid ((w.alloc (Qaj op num str pos)).heap[w.heap.size]?=some (Qaj op num str pos)):=Za (heap_alloc_new _ _);obtain ⟨P,hP⟩:∃ P,w.heap.size=P:=⟨_,rfl⟩;have HPE:=Za hP;have e3:(op==3)=false:=Zd h3;have e5:(op==5)=false:=Zd h5;unfold QbB;go_enter Tryz.func99,Tryz.ntmps99;go_upto_region 1 with fail;(try simp only [hP]);rw [hP] at HB0 HE0;generalize w.alloc (Qaj op num str pos)=W0 at *;clear hP;obtain ⟨d0,d1,d2,d3⟩:=Qaa HE0.out;have hsz:(str.length:Int)<=1048576:=by omega
 obtain ⟨sb,hsb⟩:∃ z,str.isEmpty=z:=⟨_,rfl⟩;obtain ⟨nb,hnb⟩:∃ z,(num==0)=z:=⟨_,rfl⟩;by_cases c1:op=1
 ·subst c1;simp only [if_true,show ((1:Int)=2)=False by decide,if_false,Bool.true_and] at hx;have HX:=Za hx;clear hx h3 h5 hX hsb hnb;go_wp2_with fail;go_ret;rw [<- HX.out,HPE.out];exact ⟨rfl,HB0.out⟩
 have f1:(op==1)=false:=Zd c1;by_cases c2:op=2
 ·subst c2;simp only [show ((2:Int)=1)=False by decide,show ((2:Int)=6)=False by decide,show ((2:Int)=7)=False by decide,if_true,if_false] at hx;rw [hnb] at hx;have HX:=Za hx;clear hx h3 h5 hX hsb c1;cases nb
  all_goals
   go_wp2_with fail;go_ret;rw [<- HX.out,HPE.out];exact ⟨QbA (by first|(simp;done)|(simp;omega)),HB0.out⟩
 have f2:(op==2)=false:=Zd c2;by_cases c6:op=6
 ·subst c6;simp only [show ((6:Int)=1)=False by decide,show ((6:Int)=2)=False by decide,if_true,if_false] at hx;rw [hsb] at hx;have HX:=Za hx;clear hx h3 h5 hX hnb c1 c2;cases sb
  all_goals
   go_wp2_with fail;go_ret;rw [<- HX.out,HPE.out];exact ⟨QbA (by simp),HB0.out⟩
 have f6:(op==6)=false:=Zd c6;by_cases c7:op=7
 ·subst c7;simp only [show ((7:Int)=1)=False by decide,show ((7:Int)=2)=False by decide,show ((7:Int)=6)=False by decide,if_true,if_false] at hx;rw [hsb] at hx;have HX:=Za hx;clear hx h3 h5 hX hnb c1 c2 c6;cases sb
  all_goals
   go_wp2_with fail;go_ret;rw [<- HX.out,HPE.out];exact ⟨QbA (by simp),HB0.out⟩
 have f7:(op==7)=false:=Zd c7;simp only [c1,c2,c6,c7,if_false] at hx;rw [hnb,hsb] at hx;have HX:=Za hx;clear hx h3 h5 hX c1 c2 c6 c7;cases nb
 all_goals
  go_wp2_with fail;go_ret;rw [<- HX.out,HPE.out];exact ⟨QbA (by first|(simp [hsb];done)|(cases sb<;>simp [hsb])),HB0.out⟩
theorem Qon (n:Nd) (h0:0<=n.num) (k:UInt8) (w:World) (hs:n.str.length<=1048576) :
  Calls Tryz.prog 99 #[QbB n.kind n.num n.str n.pos,.int .u8 k.toNat] w fun e w'=>e = .returned (.bool (Qa5 n k))/\Below w.heap.size w w':=by
 obtain ⟨op,num,str,pos⟩:=n;by_cases h:op=3\/op=5
 ·have:=Qnk op num h str pos k w hs;rw [show Qa5 ⟨op,num,str,pos⟩ k=(num==0&&Qec k str) by
   unfold Qa5;simp only [h,if_true];rw [if_neg (by omega),if_neg (by omega),if_neg (by omega)]]
  exact this
 ·exact QlO op num (by omega) (by omega) h0 str pos k w hs
theorem Qk7 (n:Nd) (h0:0<=n.num) (k:UInt8) (b:Bool) (H:Hid (Qa5 n k=b)) (w:World) (hs:n.str.length<=1048576) :
  Calls Tryz.prog 99 #[QbB n.kind n.num n.str n.pos,.int .u8 k.toNat] w fun e w'=>e = .returned (.bool b)/\Below w.heap.size w w':=by
 have:=Qon n h0 k w hs;rw [H.out] at this;exact this
end
section
open Go.RowKit
attribute [local go_sem] ByteArray.mk_append_mk Qac Qad Qae
def wI:Option Nat->Int
 | some j=>j
 | none=>-1
def Qei (w:World) (x:Option Nat) (e:Ending) (w':World):Prop:=e = .returned (.int .i64 (wI x))/\Below w.heap.size w w'
structure WalkOk (p:List Nd) (d:Nat) (dep:Int):Prop where
 blk:∀ (kd:UInt8) (i:Nat) (v:Value) (w:World),Qhv kd=true->NSl w v p->i<=p.length ->
  Calls Tryz.prog 54 #[v,.int .i64 i,.int .u8 kd.toNat,.int .i64 dep] w (Qei w (Qan p d true kd i))
 one:∀ (kd:UInt8) (i:Nat) (v:Value) (w:World),Qhv kd=false->kd≠120->NSl w v p->i<=p.length ->
  Calls Tryz.prog 54 #[v,.int .i64 i,.int .u8 kd.toNat,.int .i64 dep] w (Qei w (Qan p d false kd i))
 el:∀ (kq:UInt8) (i:Nat) (v:Value) (w:World),kq≠115->NSl w v p->(h:i<p.length)->Qar kq p[i].kind=true ->
  Calls Tryz.prog 54 #[v,.int .i64 i,.int .u8 120,.int .i64 dep] w (Qei w (Qan p d false kq i))
theorem NSl.tat {w:World} {g off n c:Nat} {l:List Nd} (h:NSl w (.slice (some ⟨g,off,none⟩) n c) l) (i:Nat) (hi:i<l.length):TAt w g (off+i * 4) l[i]:=by
 obtain ⟨⟨a,cap,hv,hc⟩,_⟩:=h;injection hv with e1 _ _;obtain ⟨b,o,ha,hk⟩:=hc (by rintro rfl;simp at hi);rw [<- e1] at ha;injection ha with ha;injection ha with h1 h2 _;subst h1 h2;exact hk i hi
theorem Qk8 {f:Nat->Option Nat} {L:Nat} (h:∀ i j,f i=some j->i<j/\j<=L):∀ (m i:Nat),i<=L->L<i+m->Qbn f m i=none
 | 0,i,h1,h2=>by omega
 | m+1,i,h1,h2=>by
   rw [Qbn];cases hf:f i with
   | none=>rfl
   | some j =>
     have:=h i j hf;exact Qk8 h m j this.2 (by omega)
theorem QrV (n:Nd) (k:UInt8) (h:k≠115):Qa5 n k=Qa5 n 120:=by
 unfold Qa5 Qec;rw [show (k != 115)=true from bne_iff_ne.2 h]<;>rfl
theorem QrW:∀ n:Fin 100,∀ k∈(QaE (n.val:Int)).2,Qhv k=QaQ k/\k≠120:=by decide +kernel
theorem Qk9 (op kids:Int):(Qc5 op kids).1.length<=10:=by
 unfold Qc5;split
 ·simp
 split
 ·split
  ·simp
  ·simp only [List.length_replicate];omega
 split
 ·simp
 split
 ·simp
 ·cases hf:Qk3 op with
  | none=>simp [QgP]
  | some t=>exact Nat.le_trans (Qk6 t (List.mem_of_find?_eq_some hf)) (by omega)
theorem QjH {op kids:Int} (h:inR op=true):∀ k∈(Qc5 op kids).1,Qhv k=QaQ k/\k≠120:=by
 unfold Qc5;split
 ·intro k hk;cases hk
 split
 ·split
  ·intro k hk;cases hk
  ·intro k hk;rw [List.eq_of_mem_replicate hk];decide
 split
 ·decide
 split
 ·decide
 ·rename_i h1 h2 h3 h4
  have ht:Qft op=true:=by
   unfold inR at h;simp only [Bool.or_eq_true,beq_iff_eq] at h;rcases h with h|h
   ·omega
   ·exact h
  rw [Qk4 ht];obtain ⟨z,rfl⟩:=QgQ ht;exact QrW z
theorem Qla (p:List Nd) (hp:p.length<=1000000) (kd:UInt8) (dep:Int) (i:Nat) (v:Value) (w:World) (hv:NSl w v p) (hi:p.length<=i) (hi2:i<=1000000) :
  Calls Tryz.prog 54 #[v,.int .i64 i,.int .u8 kd.toNat,.int .i64 dep] w (Qei w none):=by
 obtain ⟨⟨a,cap,rfl,hc⟩,hs⟩:=hv;have hi':(i:Int)>=(p.length:Int):=by omega
 clear hc hs;go_enter Tryz.func54,Tryz.ntmps54;go_wp2_with fail;go_ret;exact ⟨rfl,Zb⟩
theorem Qi8 (p:List Nd) (hp:p.length<=1000000) (kd:UInt8) (dep:Int) (hd:dep>32) (i:Nat) (v:Value) (w:World) (hv:NSl w v p) (hi2:i<=1000000) :
  Calls Tryz.prog 54 #[v,.int .i64 i,.int .u8 kd.toNat,.int .i64 dep] w (Qei w none):=by
 by_cases hi:p.length<=i
 ·exact Qla p hp kd dep i v w hv hi hi2
 obtain ⟨⟨a,cap,rfl,hc⟩,hs⟩:=hv;have hi':¬ (i:Int)>=(p.length:Int):=by omega
 clear hc hs;go_enter Tryz.func54,Tryz.ntmps54;go_wp2_with fail;go_ret;exact ⟨rfl,Zb⟩
set_option maxRecDepth 100000 in
theorem Qtv (p:List Nd) (hp:p.length<=1000000) (d:Nat) (dep:Int) (hd0 : -1000<=dep) (hd1:dep<=32) (ih:WalkOk p d (dep+1)) (kd:UInt8) (hkb:Qhv kd=true) (i:Nat) (v:Value) (w:World) (hv:NSl w v p) (hi:i<p.length) :
  Calls Tryz.prog 54 #[v,.int .i64 i,.int .u8 kd.toNat,.int .i64 dep] w (Qei w (Qan p (d+1) true kd i)):=by
 have IH:=Za ih;have HI:=Za (fun w=>Qhf kd true (Za hkb) w);have hk115:kd≠115:=by rintro rfl;cases hkb
 obtain ⟨X,hX⟩:∃ X,Hid (Qan p (d+1) true kd i=X):=⟨_,Za rfl⟩;have HX0:Hid (X=if p[i].kind=4/\p[i].num=0/\p[i].str=[]/\0<=p[i].pos then Qbn (Qan p d false kd) p[i].pos.toNat (i+1) else none):=Za (by rw [<- hX.out,Qan,List.getElem?_eq_getElem hi]);rw [hX.out];clear ih hkb hX;have HV0:=Za hv;obtain ⟨hts,htn⟩:=hv.2 p[i] (List.getElem_mem hi);obtain ⟨a,cap,rfl,hc⟩:=hv.1;obtain ⟨g,off,rfl,hk⟩:=hc (by rintro rfl;simp at hi);obtain ⟨d0,d1,d2,d3⟩:=hk i hi;have hi':¬ (i:Int)>=(p.length:Int):=by omega
 have hi2:(i:Int)<(p.length:Int):=by omega
 have hd1':¬ dep>32:=by omega
 clear hc hk hv;obtain ⟨T,hT⟩:∃ T,p[i]=T:=⟨_,rfl⟩;have HT:=Za hT;rw [hT] at d0 d1 d2 d3 hts htn HX0;obtain ⟨nk,nn,ns,np⟩:=T;simp only at d0 d1 d2 d3 hts htn HX0;obtain ⟨L,hL⟩:∃ L,p.length=L:=⟨_,rfl⟩;have HL:=Za hL;rw [hL] at hi hi' hi2 hp HV0 |-;have HBA:Hid (Below w.heap.size w (w.alloc (Qaj nk nn ns np))):=Za (Zb.alloc Zc _);have HE:=Za (heap_alloc_new w (Qaj nk nn ns np));have HV:=Za (HV0.out.below HBA.out);have hsz:w.heap.size<=(w.alloc (Qaj nk nn ns np)).heap.size:=HBA.out.size;obtain ⟨P,hP⟩:∃ P,w.heap.size=P:=⟨_,rfl⟩;have HPE:=Za hP;have HSZ:=Za hsz;clear hT HV0 hsz hL;go_enter Tryz.func54,Tryz.ntmps54;go_upto_region 4 with fail;generalize w.alloc (Qaj nk nn ns np)=W at *;(try simp only [hP]);rw [hP] at HBA HE HSZ;clear hP d0 d1 d2 d3;obtain ⟨e0,e1,e2,e3⟩:=Qaa HE.out;by_cases h4:nk=4/\nn=0/\ns=[]/\0<=np
 ·obtain ⟨rfl,rfl,rfl,hn0⟩:=h4;obtain ⟨N,rfl⟩:∃ N:Nat,np=N:=⟨np.toNat,by omega⟩;have HX2:Hid (Qbn (Qan p d false kd) N (i+1)=X):=Za (by rw [HX0.out,if_pos ⟨rfl,rfl,rfl,hn0⟩]<;>rfl);have hn0':¬ (N:Int)<0:=by omega
  clear HX0;by_cases hNL:N>L
  ·have hNL':(N:Int)>(L:Int):=by omega
   have HX:Hid (X=none):=Za (by
    rw [<- HX2.out];exact Qk8 (fun i j=>Qau p d false kd i j) N (i+1) (by rw [HL.out];omega) (by rw [HL.out];omega))
   go_wp2_with fail;((with_reducible refine (HI.out _).mono ?_));rintro e w1 ⟨rfl,rfl⟩;go_wp2_with fail;go_ret;rw [HX.out];exact ⟨rfl,by rw [HPE.out];exact HBA.out⟩
  ·have hNL':¬ (N:Int)>(L:Int):=by omega
   have HEQ:=Za HE.out;go_wp2_with fail;((with_reducible refine (HI.out _).mono ?_));rintro e w1 ⟨rfl,rfl⟩;go_wp2_with fail;go_loopw [1,10] (fun x y wr=>∃ (j q:Nat),x = .int .i64 q/\y = .int .i64 j/\j<=N/\q<=L/\Hid (Qbn (Qan p d false kd) (N-j) q=X)/\Hid (NSl wr (.slice (some ⟨g,off,none⟩) L cap) p)/\Hid (wr.heap[P]?=some (Qaj 4 0 [] N))/\Hid (Below P w wr)/\Hid (P<=wr.heap.size)) (fun _ y _=>N-(intOf y).toNat)
   case atStart=>exact ⟨0,i+1,by simp,rfl,by omega,by omega,HX2,HV,HEQ,HBA,HSZ⟩
   case round =>
    clear HX2 HV HBA HSZ HE e0 e1 e2 e3 HEQ;obtain ⟨j,q,rfl,rfl,hj,hq,HXJ,HV,HE,HB,HS⟩:=hrel;obtain ⟨w4,rfl⟩:∃ y:World,y=wr:=⟨_,rfl⟩;obtain ⟨e0,e1,e2,e3⟩:=Qaa HE.out;by_cases hlt:j<N
    ·have hlt':(j:Int)<(N:Int):=by omega
     have HXK:Hid (X=match Qan p d false kd q with|none=>none|some z=>Qbn (Qan p d false kd) (N-(j+1)) z):=Za (by
      rw [<- HXJ.out,show N-j=(N-(j+1))+1 by omega,Qbn]<;>rfl)
     by_cases hqL:q<L
     ·have hqL':¬ (q:Int)>=(L:Int):=by omega
      have hqL2:(q:Int)<(L:Int):=by omega
      have hqp:q<p.length:=by rw [HL.out];exact hqL
      obtain ⟨c0,c1,c2,c3⟩:=HV.out.tat q hqp;obtain ⟨qk,hqk⟩:∃ z,p[q].kind=z:=⟨_,rfl⟩;rw [hqk] at c0;obtain ⟨ab,hab⟩:∃ z,Hid (Qar kd qk=z):=⟨_,Za rfl⟩;have HPER:=Za (fun w=>Qi5 kd qk ab hab w);clear c1 c2 c3;cases ab with
      | false =>
        have HX:Hid (X=none):=Za (by
         rw [HXK.out];have:Qan p d false kd q=none:=by
          cases d with
          | zero=>rfl
          | succ d=>rw [Qan,List.getElem?_eq_getElem hqp];simp only [];rw [if_neg (by rw [hqk,hab.out];simp)]
         rw [this])
        clear HXK HXJ;go_wp2_with fail;((with_reducible refine (HPER.out _).mono ?_));rintro e w5 ⟨rfl,rfl⟩;go_wp2_with fail;go_ret;rw [HX.out];exact ⟨rfl,by rw [HPE.out];exact HB.out⟩
      | true =>
        have HC:=Za (IH.out.el kd q _ w4 hk115 HV.out hqp (by rw [hqk];exact hab.out));unfold Qei at HC;cases hx:Qan p d false kd q with
        | none =>
          rw [hx] at HC HXK;have HX:Hid (X=none):=HXK;clear hx HXJ HXK;unfold wI at HC;go_wp2_with fail;((with_reducible refine (HPER.out _).mono ?_));rintro e w5 ⟨rfl,rfl⟩;go_wp2_with fail;((with_reducible refine HC.out.mono ?_));rintro e w5 ⟨rfl,hb5⟩;have HB5:Hid (Below P w w5):=Za (HB.out.trans (hb5.mono HS.out));clear hb5;go_wp2_with fail;go_ret;rw [HX.out];exact ⟨rfl,by rw [HPE.out];exact HB5.out⟩
        | some z =>
          rw [hx] at HC HXK;have hz:=(Qau p d false kd q z hx).2;rw [HL.out] at hz;have HX5:Hid (Qbn (Qan p d false kd) (N-(j+1)) z=X):=Za HXK.out.symm;clear hx HXJ HXK;unfold wI at HC;have hz0:¬ (z:Int)<0:=by omega
          go_wp2_with fail;((with_reducible refine (HPER.out _).mono ?_));rintro e w5 ⟨rfl,rfl⟩;go_wp2_with fail;((with_reducible refine HC.out.mono ?_));rintro e w5 ⟨rfl,hb5⟩;have HB5:Hid (Below P w w5):=Za (HB.out.trans (hb5.mono HS.out));have HV5:=Za (HV.out.below hb5);have HE5:=Za (Qab HE.out hb5);have HS5:Hid (P<=w5.heap.size):=Za (Nat.le_trans HS.out hb5.size);clear hb5 HC;go_wp2_with fail;go_roundw
          case rel=>exact ⟨j+1,z,by go_num,by go_num,by omega,hz,HX5,HV5,HE5,HB5,HS5⟩
          case measure=>simp [intOf];omega
     ·have hqL':(q:Int)>=(L:Int):=by omega
      have HX:Hid (X=none):=Za (by rw [HXK.out,Qod p d false kd q (by rw [HL.out];omega)]);clear HXK HXJ;go_wp2_with fail;go_ret;rw [HX.out];exact ⟨rfl,by rw [HPE.out];exact HB.out⟩
    ·have hlt':¬ (j:Int)<(N:Int):=by omega
     have HX5:Hid (X=some q):=Za (by rw [<- HXJ.out,show N-j=0 by omega,Qbn]);clear HXJ;go_wp2_with fail;go_ret;rw [HX5.out];exact ⟨rfl,by rw [HPE.out];exact HB.out⟩
 ·have HX:Hid (X=none):=Za (by rw [HX0.out,if_neg h4]);have HN4:=Za h4;clear HX0 h4;by_cases g1:nk=4
  ·subst g1;by_cases g2:nn=0
   ·subst g2;cases ns with
    | nil =>
      have g3:np<0:=by
       by_cases h:np<0
       ·exact h
       ·exact absurd ⟨rfl,rfl,rfl,by omega⟩ HN4.out
      go_wp2_with fail;((with_reducible refine (HI.out _).mono ?_));rintro e w1 ⟨rfl,rfl⟩;go_wp2_with fail;go_ret;rw [HX.out];exact ⟨rfl,by rw [HPE.out];exact HBA.out⟩
    | cons c r =>
      go_wp2_with fail;((with_reducible refine (HI.out _).mono ?_));rintro e w1 ⟨rfl,rfl⟩;go_wp2_with fail;go_ret;rw [HX.out];exact ⟨rfl,by rw [HPE.out];exact HBA.out⟩
   ·have f2:(nn != 0)=true:=bne_iff_ne.2 g2;clear g2;go_wp2_with fail;((with_reducible refine (HI.out _).mono ?_));rintro e w1 ⟨rfl,rfl⟩;go_wp2_with fail;go_ret;rw [HX.out];exact ⟨rfl,by rw [HPE.out];exact HBA.out⟩
  ·have f1:(nk != 4)=true:=bne_iff_ne.2 g1;clear g1;go_wp2_with fail;((with_reducible refine (HI.out _).mono ?_));rintro e w1 ⟨rfl,rfl⟩;go_wp2_with fail;go_ret;rw [HX.out];exact ⟨rfl,by rw [HPE.out];exact HBA.out⟩
set_option maxRecDepth 100000 in
theorem Qtw (p:List Nd) (hp:p.length<=1000000) (d:Nat) (dep:Int) (hd0 : -1000<=dep) (hd1:dep<=32) (ih:WalkOk p d (dep+1)) (kd:UInt8) (hkb:Qhv kd=false) (hkx:kd≠120) (i:Nat) (v:Value) (w:World) (hv:NSl w v p) (hi:i<p.length) (hps:p[i].str.length<=1048576) :
  Calls Tryz.prog 54 #[v,.int .i64 i,.int .u8 kd.toNat,.int .i64 dep] w (Qei w (Qan p (d+1) false kd i)):=by
 have IH:=Za ih;have HI:Hid (∀ w,Calls Tryz.prog 64 #[.int .u8 kd.toNat] w fun e w'=>e = .returned (.bool false)/\w=w'):=Za (fun w=>Qhf kd false (Za hkb) w);obtain ⟨X,hX⟩:∃ X,Hid (Qan p (d+1) false kd i=X):=⟨_,Za rfl⟩;have HX0:Hid (X=if Qar kd p[i].kind=true/\Qa5 p[i] kd=true then (match QbH p[i] with
  | none=>none
  | some ks=>QaT (fun k j=>Qan p d (QaQ k) k j) ks (i+1)) else none):=Za (by rw [<- hX.out,Qan,List.getElem?_eq_getElem hi]<;>rfl)
 rw [hX.out];clear ih hX;have HV0:=Za hv;obtain ⟨hts,htn⟩:=hv.2 p[i] (List.getElem_mem hi);obtain ⟨a,cap,rfl,hc⟩:=hv.1;obtain ⟨g,off,rfl,hk⟩:=hc (by rintro rfl;simp at hi);obtain ⟨d0,d1,d2,d3⟩:=hk i hi;have hi':¬ (i:Int)>=(p.length:Int):=by omega
 have hi2:(i:Int)<(p.length:Int):=by omega
 have hd1':¬ dep>32:=by omega
 clear hc hk hv;obtain ⟨T,hT⟩:∃ T,p[i]=T:=⟨_,rfl⟩;have HT:=Za hT;rw [hT] at d0 d1 d2 d3 hts htn HX0 hps;obtain ⟨nk,nn,ns,np⟩:=T;simp only at d0 d1 d2 d3 hts htn HX0 hps;obtain ⟨L,hL⟩:∃ L,p.length=L:=⟨_,rfl⟩;have HL:=Za hL;rw [hL] at hi hi' hi2 hp HV0 |-;have HBA:Hid (Below w.heap.size w (w.alloc (Qaj nk nn ns np))):=Za (Zb.alloc Zc _);have HE:=Za (heap_alloc_new w (Qaj nk nn ns np));have HV:=Za (HV0.out.below HBA.out);have hsz:w.heap.size<=(w.alloc (Qaj nk nn ns np)).heap.size:=HBA.out.size;obtain ⟨P,hP⟩:∃ P,w.heap.size=P:=⟨_,rfl⟩;have HPE:=Za hP;have HSZ:=Za hsz;clear hT HV0 hsz hL;go_enter Tryz.func54,Tryz.ntmps54;go_upto_region 4 with fail;generalize w.alloc (Qaj nk nn ns np)=W at *;(try simp only [hP]);rw [hP] at HBA HE HSZ;clear hP d0 d1 d2 d3;obtain ⟨e0,e1,e2,e3⟩:=Qaa HE.out;obtain ⟨⟨ks,ok⟩,hkv⟩:∃ z,Qc5 nk np=z:=⟨_,rfl⟩;obtain ⟨ab,hab⟩:∃ z,Hid (Qar kd nk=z):=⟨_,Za rfl⟩;obtain ⟨fb,hfb⟩:∃ z,Hid (Qa5 ⟨nk,nn,ns,np⟩ kd=z):=⟨_,Za rfl⟩;have HFB:Hid (Qa5 ⟨nk,nn,ns,np⟩ kd=fb):=Za (hfb.out);have HKN:=Za (Qom nk np ks ok (Za hkv) W);have HKV:=Za hkv;have HXS:Hid (X=if ab=true/\fb=true/\ok=true then QaT (fun k j=>Qan p d (QaQ k) k j) ks (i+1) else none):=Za (by
  rw [HX0.out,hab.out,HFB.out];cases hab2:ab with
  | false=>simp
  | true =>
    rw [hab2] at hab;rw [QjG ⟨nk,nn,ns,np⟩ (QiE hab.out)];simp only [hkv];cases fb<;>cases ok<;>simp)
 have hgood:ab=true->∀ k∈ks,Qhv k=QaQ k/\k≠120:=fun h=>by
  rw [h] at hab;have:=QjH (kids:=np) (QiE hab.out);rw [hkv] at this;exact this
 have HGD:=Za hgood;have hkl:ok=true->ks.length<=10:=fun h=>by
  have:=Qk9 nk np;rw [hkv] at this;exact this
 have HKL:=Za hkl;clear HX0 hkv hgood hkl;go_wp2_with fail;((with_reducible refine (HI.out _).mono ?_));rintro e w1 ⟨rfl,rfl⟩;go_wp2_with fail;((with_reducible refine HKN.out.mono ?_));rintro e w2 ⟨rfl,hb2⟩;have HE2:=Za (Qab HE.out hb2);have HV2:=Za (HV.out.below hb2);have HB2:Hid (Below P w w2):=Za (HBA.out.trans (hb2.mono HSZ.out));have HS2:Hid (P<=w2.heap.size):=Za (Nat.le_trans HSZ.out hb2.size);have HPER:=Za (fun w=>Qi5 kd nk (Qar kd nk) (Za rfl) w);have HFI:=Za (fun w=>Qk7 ⟨nk,nn,ns,np⟩ htn kd fb hfb w hps);unfold QbB at HFI;simp only at HFI;clear hb2 HE HV HBA HSZ e0 e1 e2 e3 HKN;obtain ⟨e0,e1,e2,e3⟩:=Qaa HE2.out;obtain ⟨tb,htb⟩:∃ tb,Hid (tb=!(ok&&ab&&fb)):=⟨_,Za rfl⟩;go_upto_region 18 with fail;go_cut [109] (fun z wx=>z = .bool tb/\Hid (Below w2.heap.size w2 wx))
 case first =>
  obtain ⟨pb,hpb⟩:∃ z,Qar kd nk=z:=⟨_,rfl⟩;have hpa:pb=ab:=by rw [<- hpb,hab.out]
  rw [hpb] at HPER;subst hpa;have hk120:((kd.toNat:Int) != 120)=true:=by
   have:=Qao kd 120;rw [bne,show (120:Int)=((120:UInt8).toNat:Int) from rfl,this,Zd hkx]<;>rfl
  have HTB:=Za htb.out;clear hpb;cases ok with
  | false =>
    have e:tb=true:=by rw [HTB.out];rfl
    subst e;go_wp2_with fail;go_meet;exact ⟨rfl,Za Zb⟩
  | true =>
    cases pb with
    | false =>
      have e:tb=true:=by rw [HTB.out];rfl
      subst e;go_wp2_with fail;((with_reducible refine (HPER.out _).mono ?_));rintro e w5 ⟨rfl,rfl⟩;go_wp2_with fail;go_meet;exact ⟨rfl,Za Zb⟩
    | true =>
      have e:tb=!fb:=by rw [HTB.out];rfl
      subst e;go_wp2_with fail;((with_reducible refine (HPER.out _).mono ?_));rintro e w5 ⟨rfl,rfl⟩;go_wp2_with fail;((with_reducible refine (HFI.out _).mono ?_));rintro e w5 ⟨rfl,hb5⟩;have HG5:=Za hb5;clear hb5;go_wp2_with fail;go_meet;exact ⟨rfl,HG5⟩
 case rest =>
 obtain ⟨rfl,HG3⟩:=hcut;obtain ⟨w3,rfl⟩:∃ y:World,y=wc:=⟨_,rfl⟩;have HV3:=Za (HV2.out.below HG3.out);have HB3:Hid (Below P w w3):=Za (HB2.out.trans (HG3.out.mono HS2.out));have HS3:Hid (P<=w3.heap.size):=Za (Nat.le_trans HS2.out HG3.out.size);clear HE2 HV2 HB2 HS2 HG3 e0 e1 e2 e3 HPER HFI;cases tb with
 | true =>
   have HX:Hid (X=none):=Za (by
    rw [HXS.out];refine if_neg (fun e=>?_);have:=htb.out;rw [e.1,e.2.1,e.2.2] at this;cases this)
   go_wp2_with fail;go_ret;rw [HX.out];exact ⟨rfl,by rw [HPE.out];exact HB3.out⟩
 | false =>
   have hall:ab=true/\fb=true/\ok=true:=by
    have:=htb.out;revert this;cases ab<;>cases fb<;>cases ok<;>decide
   have HX1:Hid (QaT (fun k j=>Qan p d (QaQ k) k j) ks (i+1)=X):=Za (by rw [HXS.out,if_pos hall]);have HGK:=Za (HGD.out hall.1);have hkl:=HKL.out hall.2.2;obtain ⟨K,hK⟩:∃ K,ks.length=K:=⟨_,rfl⟩;have HK:=Za hK;rw [hK] at hkl;clear HXS hall HGD HKL htb hab hfb HFB;go_wp2_with fail;(try simp only [hK]);clear hK;go_loopw [1,13] (fun x y wr=>∃ (j q:Nat),x = .int .i64 q/\y = .int .i64 j/\j<=K/\q<=L/\Hid (QaT (fun k j=>Qan p d (QaQ k) k j) (ks.drop j) q=X)/\Hid (NSl wr (.slice (some ⟨g,off,none⟩) L cap) p)/\Hid (Below P w wr)/\Hid (P<=wr.heap.size)) (fun _ y _=>K-(intOf y).toNat)
   case atStart=>exact ⟨0,i+1,by simp,rfl,by omega,by omega,HX1,HV3,HB3,HS3⟩
   case round =>
    clear HX1 HV3 HB3 HS3;obtain ⟨j,q,rfl,rfl,hj,hq,HXJ,HV,HB,HS⟩:=hrel;obtain ⟨w4,rfl⟩:∃ y:World,y=wr:=⟨_,rfl⟩;have HKK:=HK.out;by_cases hlt:j<K
    ·have hlt':(j:Int)<(K:Int):=by omega
     have hjk:j<ks.length:=by omega
     obtain ⟨kj,hkj⟩:∃ x,ks[j]=x:=⟨_,rfl⟩;have hgk:=HGK.out kj (by rw [<- hkj];exact List.getElem_mem hjk);have HXK:Hid (X=match Qan p d (QaQ kj) kj q with|none=>none|some z=>QaT (fun k j=>Qan p d (QaQ k) k j) (ks.drop (j+1)) z):=Za (by
      rw [<- HXJ.out,List.drop_eq_getElem_cons hjk,hkj,QaT]<;>rfl)
     have HC:Hid (Calls Tryz.prog 54 #[.slice (some ⟨g,off,none⟩) L cap,.int .i64 q,.int .u8 kj.toNat,.int .i64 (dep+1)] w4 (Qei w4 (Qan p d (QaQ kj) kj q))):=Za (by
      cases hb:QaQ kj with
      | true=>exact IH.out.blk kj q _ w4 (by rw [hgk.1,hb]) HV.out (by rw [HL.out];exact hq)
      | false=>exact IH.out.one kj q _ w4 (by rw [hgk.1,hb]) hgk.2 HV.out (by rw [HL.out];exact hq))
     unfold Qei at HC;clear hgk HKK;cases hx:Qan p d (QaQ kj) kj q with
     | none =>
       rw [hx] at HC HXK;have HX:Hid (X=none):=HXK;clear hx HXJ HXK;unfold wI at HC;go_wp2_with fail;((with_reducible refine HC.out.mono ?_));rintro e w5 ⟨rfl,hb5⟩;have HB5:Hid (Below P w w5):=Za (HB.out.trans (hb5.mono HS.out));clear hb5;go_wp2_with fail;go_ret;rw [HX.out];exact ⟨rfl,by rw [HPE.out];exact HB5.out⟩
     | some z =>
       rw [hx] at HC HXK;have hz:=(Qau p d (QaQ kj) kj q z hx).2;rw [HL.out] at hz;have HX5:Hid (QaT (fun k j=>Qan p d (QaQ k) k j) (ks.drop (j+1)) z=X):=Za HXK.out.symm;clear hx HXJ HXK;unfold wI at HC;have hz0:¬ (z:Int)<0:=by omega
       go_wp2_with fail;((with_reducible refine HC.out.mono ?_));rintro e w5 ⟨rfl,hb5⟩;have HB5:Hid (Below P w w5):=Za (HB.out.trans (hb5.mono HS.out));have HV5:=Za (HV.out.below hb5);have HS5:Hid (P<=w5.heap.size):=Za (Nat.le_trans HS.out hb5.size);clear hb5 HC;go_wp2_with fail;go_roundw
       case rel=>exact ⟨j+1,z,by go_num,by go_num,by omega,hz,HX5,HV5,HB5,HS5⟩
       case measure=>simp [intOf];omega
    ·have hlt':¬ (j:Int)<(ks.length:Int):=by omega
     have HX5:Hid (X=some q):=Za (by rw [<- HXJ.out,List.drop_eq_nil_of_le (by omega),QaT]);clear HXJ HKK;go_wp2_with fail;go_ret;rw [HX5.out];exact ⟨rfl,by rw [HPE.out];exact HB.out⟩
set_option maxRecDepth 100000 in
theorem Qvh (p:List Nd) (hp:p.length<=1000000) (d:Nat) (dep:Int) (hd0 : -1000<=dep) (hd1:dep<=32) (ih:WalkOk p d (dep+1)) (kq:UInt8) (hkq:kq≠115) (i:Nat) (v:Value) (w:World) (hv:NSl w v p) (hi:i<p.length) (hps:p[i].str.length<=1048576) (hacc:Qar kq p[i].kind=true) :
  Calls Tryz.prog 54 #[v,.int .i64 i,.int .u8 120,.int .i64 dep] w (Qei w (Qan p (d+1) false kq i)):=by
 have IH:=Za ih;have HI:Hid (∀ w,Calls Tryz.prog 64 #[.int .u8 120] w fun e w'=>e = .returned (.bool false)/\w=w'):=Za (fun w=>Qhf 120 false (Za rfl) w);obtain ⟨X,hX⟩:∃ X,Hid (Qan p (d+1) false kq i=X):=⟨_,Za rfl⟩;have HX0:Hid (X=if Qar kq p[i].kind=true/\Qa5 p[i] kq=true then (match QbH p[i] with
  | none=>none
  | some ks=>QaT (fun k j=>Qan p d (QaQ k) k j) ks (i+1)) else none):=Za (by rw [<- hX.out,Qan,List.getElem?_eq_getElem hi]<;>rfl)
 rw [hX.out];clear ih hX;have HV0:=Za hv;obtain ⟨hts,htn⟩:=hv.2 p[i] (List.getElem_mem hi);obtain ⟨a,cap,rfl,hc⟩:=hv.1;obtain ⟨g,off,rfl,hk⟩:=hc (by rintro rfl;simp at hi);obtain ⟨d0,d1,d2,d3⟩:=hk i hi;have hi':¬ (i:Int)>=(p.length:Int):=by omega
 have hi2:(i:Int)<(p.length:Int):=by omega
 have hd1':¬ dep>32:=by omega
 clear hc hk hv;obtain ⟨T,hT⟩:∃ T,p[i]=T:=⟨_,rfl⟩;have HT:=Za hT;rw [hT] at d0 d1 d2 d3 hts htn HX0 hps hacc;obtain ⟨nk,nn,ns,np⟩:=T;simp only at d0 d1 d2 d3 hts htn HX0 hps hacc;obtain ⟨L,hL⟩:∃ L,p.length=L:=⟨_,rfl⟩;have HL:=Za hL;rw [hL] at hi hi' hi2 hp HV0 |-;have HBA:Hid (Below w.heap.size w (w.alloc (Qaj nk nn ns np))):=Za (Zb.alloc Zc _);have HE:=Za (heap_alloc_new w (Qaj nk nn ns np));have HV:=Za (HV0.out.below HBA.out);have hsz:w.heap.size<=(w.alloc (Qaj nk nn ns np)).heap.size:=HBA.out.size;obtain ⟨P,hP⟩:∃ P,w.heap.size=P:=⟨_,rfl⟩;have HPE:=Za hP;have HSZ:=Za hsz;clear hT HV0 hsz hL;go_enter Tryz.func54,Tryz.ntmps54;go_upto_region 4 with fail;generalize w.alloc (Qaj nk nn ns np)=W at *;(try simp only [hP]);rw [hP] at HBA HE HSZ;clear hP d0 d1 d2 d3;obtain ⟨e0,e1,e2,e3⟩:=Qaa HE.out;obtain ⟨⟨ks,ok⟩,hkv⟩:∃ z,Qc5 nk np=z:=⟨_,rfl⟩;obtain ⟨ab,hab⟩:∃ z,Hid (Qar kq nk=z):=⟨_,Za rfl⟩;obtain ⟨fb,hfb⟩:∃ z,Hid (Qa5 ⟨nk,nn,ns,np⟩ 120=z):=⟨_,Za rfl⟩;have HFB:Hid (Qa5 ⟨nk,nn,ns,np⟩ kq=fb):=Za ((QrV _ kq hkq).trans hfb.out);have HKN:=Za (Qom nk np ks ok (Za hkv) W);have HKV:=Za hkv;have HXS:Hid (X=if ab=true/\fb=true/\ok=true then QaT (fun k j=>Qan p d (QaQ k) k j) ks (i+1) else none):=Za (by
  rw [HX0.out,hab.out,HFB.out];cases hab2:ab with
  | false=>simp
  | true =>
    rw [hab2] at hab;rw [QjG ⟨nk,nn,ns,np⟩ (QiE hab.out)];simp only [hkv];cases fb<;>cases ok<;>simp)
 have hgood:ab=true->∀ k∈ks,Qhv k=QaQ k/\k≠120:=fun h=>by
  rw [h] at hab;have:=QjH (kids:=np) (QiE hab.out);rw [hkv] at this;exact this
 have HGD:=Za hgood;have hkl:ok=true->ks.length<=10:=fun h=>by
  have:=Qk9 nk np;rw [hkv] at this;exact this
 have HKL:=Za hkl;clear HX0 hkv hgood hkl;go_wp2_with fail;((with_reducible refine (HI.out _).mono ?_));rintro e w1 ⟨rfl,rfl⟩;go_wp2_with fail;((with_reducible refine HKN.out.mono ?_));rintro e w2 ⟨rfl,hb2⟩;have HE2:=Za (Qab HE.out hb2);have HV2:=Za (HV.out.below hb2);have HB2:Hid (Below P w w2):=Za (HBA.out.trans (hb2.mono HSZ.out));have HS2:Hid (P<=w2.heap.size):=Za (Nat.le_trans HSZ.out hb2.size);have HPER:=Za (fun w=>Qi5 120 nk (Qar 120 nk) (Za rfl) w);have HFI:=Za (fun w=>Qk7 ⟨nk,nn,ns,np⟩ htn 120 fb hfb w hps);unfold QbB at HFI;simp only at HFI;clear hb2 HE HV HBA HSZ e0 e1 e2 e3 HKN;obtain ⟨e0,e1,e2,e3⟩:=Qaa HE2.out;obtain ⟨tb,htb⟩:∃ tb,Hid (tb=!(ok&&ab&&fb)):=⟨_,Za rfl⟩;go_upto_region 18 with fail;go_cut [109] (fun z wx=>z = .bool tb/\Hid (Below w2.heap.size w2 wx))
 case first =>
  have e3:ab=true:=by rw [<- hab.out];exact hacc
  subst e3;have HTB:=Za htb.out;cases ok with
  | false =>
    have e:tb=true:=by rw [HTB.out];rfl
    subst e;go_wp2_with fail;go_meet;exact ⟨rfl,Za Zb⟩
  | true =>
    have e:tb=!fb:=by rw [HTB.out];rfl
    subst e;have HFI2:Hid (∀ w,Calls Tryz.prog 99 #[.agg #[.int .i64 nk,.int .u64 nn,.string ⟨ns.toArray⟩,.int .i64 np],.int .u8 120] w fun e w'=>e = .returned (.bool fb)/\Below w.heap.size w w'):=HFI;clear HFI;go_wp2_with fail;((with_reducible refine (HFI2.out _).mono ?_));rintro e w5 ⟨rfl,hb5⟩;have HG5:=Za hb5;clear hb5;go_wp2_with fail;go_meet;exact ⟨rfl,HG5⟩
 case rest =>
 obtain ⟨rfl,HG3⟩:=hcut;obtain ⟨w3,rfl⟩:∃ y:World,y=wc:=⟨_,rfl⟩;have HV3:=Za (HV2.out.below HG3.out);have HB3:Hid (Below P w w3):=Za (HB2.out.trans (HG3.out.mono HS2.out));have HS3:Hid (P<=w3.heap.size):=Za (Nat.le_trans HS2.out HG3.out.size);clear HE2 HV2 HB2 HS2 HG3 e0 e1 e2 e3 HPER HFI;cases tb with
 | true =>
   have HX:Hid (X=none):=Za (by
    rw [HXS.out];refine if_neg (fun e=>?_);have:=htb.out;rw [e.1,e.2.1,e.2.2] at this;cases this)
   go_wp2_with fail;go_ret;rw [HX.out];exact ⟨rfl,by rw [HPE.out];exact HB3.out⟩
 | false =>
   have hall:ab=true/\fb=true/\ok=true:=by
    have:=htb.out;revert this;cases ab<;>cases fb<;>cases ok<;>decide
   have HX1:Hid (QaT (fun k j=>Qan p d (QaQ k) k j) ks (i+1)=X):=Za (by rw [HXS.out,if_pos hall]);have HGK:=Za (HGD.out hall.1);have hkl:=HKL.out hall.2.2;obtain ⟨K,hK⟩:∃ K,ks.length=K:=⟨_,rfl⟩;have HK:=Za hK;rw [hK] at hkl;clear HXS hall HGD HKL htb hab hfb HFB;go_wp2_with fail;(try simp only [hK]);clear hK;go_loopw [1,13] (fun x y wr=>∃ (j q:Nat),x = .int .i64 q/\y = .int .i64 j/\j<=K/\q<=L/\Hid (QaT (fun k j=>Qan p d (QaQ k) k j) (ks.drop j) q=X)/\Hid (NSl wr (.slice (some ⟨g,off,none⟩) L cap) p)/\Hid (Below P w wr)/\Hid (P<=wr.heap.size)) (fun _ y _=>K-(intOf y).toNat)
   case atStart=>exact ⟨0,i+1,by simp,rfl,by omega,by omega,HX1,HV3,HB3,HS3⟩
   case round =>
    clear HX1 HV3 HB3 HS3;obtain ⟨j,q,rfl,rfl,hj,hq,HXJ,HV,HB,HS⟩:=hrel;obtain ⟨w4,rfl⟩:∃ y:World,y=wr:=⟨_,rfl⟩;have HKK:=HK.out;by_cases hlt:j<K
    ·have hlt':(j:Int)<(K:Int):=by omega
     have hjk:j<ks.length:=by omega
     obtain ⟨kj,hkj⟩:∃ x,ks[j]=x:=⟨_,rfl⟩;have hgk:=HGK.out kj (by rw [<- hkj];exact List.getElem_mem hjk);have HXK:Hid (X=match Qan p d (QaQ kj) kj q with|none=>none|some z=>QaT (fun k j=>Qan p d (QaQ k) k j) (ks.drop (j+1)) z):=Za (by
      rw [<- HXJ.out,List.drop_eq_getElem_cons hjk,hkj,QaT]<;>rfl)
     have HC:Hid (Calls Tryz.prog 54 #[.slice (some ⟨g,off,none⟩) L cap,.int .i64 q,.int .u8 kj.toNat,.int .i64 (dep+1)] w4 (Qei w4 (Qan p d (QaQ kj) kj q))):=Za (by
      cases hb:QaQ kj with
      | true=>exact IH.out.blk kj q _ w4 (by rw [hgk.1,hb]) HV.out (by rw [HL.out];exact hq)
      | false=>exact IH.out.one kj q _ w4 (by rw [hgk.1,hb]) hgk.2 HV.out (by rw [HL.out];exact hq))
     unfold Qei at HC;clear hgk HKK;cases hx:Qan p d (QaQ kj) kj q with
     | none =>
       rw [hx] at HC HXK;have HX:Hid (X=none):=HXK;clear hx HXJ HXK;unfold wI at HC;go_wp2_with fail;((with_reducible refine HC.out.mono ?_));rintro e w5 ⟨rfl,hb5⟩;have HB5:Hid (Below P w w5):=Za (HB.out.trans (hb5.mono HS.out));clear hb5;go_wp2_with fail;go_ret;rw [HX.out];exact ⟨rfl,by rw [HPE.out];exact HB5.out⟩
     | some z =>
       rw [hx] at HC HXK;have hz:=(Qau p d (QaQ kj) kj q z hx).2;rw [HL.out] at hz;have HX5:Hid (QaT (fun k j=>Qan p d (QaQ k) k j) (ks.drop (j+1)) z=X):=Za HXK.out.symm;clear hx HXJ HXK;unfold wI at HC;have hz0:¬ (z:Int)<0:=by omega
       go_wp2_with fail;((with_reducible refine HC.out.mono ?_));rintro e w5 ⟨rfl,hb5⟩;have HB5:Hid (Below P w w5):=Za (HB.out.trans (hb5.mono HS.out));have HV5:=Za (HV.out.below hb5);have HS5:Hid (P<=w5.heap.size):=Za (Nat.le_trans HS.out hb5.size);clear hb5 HC;go_wp2_with fail;go_roundw
       case rel=>exact ⟨j+1,z,by go_num,by go_num,by omega,hz,HX5,HV5,HB5,HS5⟩
       case measure=>simp [intOf];omega
    ·have hlt':¬ (j:Int)<(ks.length:Int):=by omega
     have HX5:Hid (X=some q):=Za (by rw [<- HXJ.out,List.drop_eq_nil_of_le (by omega),QaT]);clear HXJ HKK;go_wp2_with fail;go_ret;rw [HX5.out];exact ⟨rfl,by rw [HPE.out];exact HB.out⟩
theorem Qqv (p:List Nd) (hp:p.length<=1000000) (hps:∀ t∈p,t.str.length<=1048576):∀ (d:Nat) (dep:Int),dep+d=33->-900<=dep->WalkOk p d dep
 | 0,dep,h,h0=>{
  blk:=fun kd i v w hb hv hi=>Qi8 p hp kd dep (by omega) i v w hv (by omega)
  one:=fun kd i v w hb hx hv hi=>Qi8 p hp kd dep (by omega) i v w hv (by omega)
  el:=fun kq i v w hb hv hi ha=>Qi8 p hp 120 dep (by omega) i v w hv (by omega) }
 | d+1,dep,h,h0=>by
   have ih:=Qqv p hp hps d (dep+1) (by omega) (by omega);refine { blk:=fun kd i v w hb hv hi=>?_,one:=fun kd i v w hb hx hv hi=>?_,el:=fun kq i v w hb hv hi ha=>?_ }
   ·rcases Nat.lt_or_ge i p.length with h2|h2
    ·exact Qtv p hp d dep (by omega) (by omega) ih kd hb i v w hv h2
    ·rw [Qod p (d+1) true kd i h2];exact Qla p hp kd dep i v w hv h2 (by omega)
   ·rcases Nat.lt_or_ge i p.length with h2|h2
    ·exact Qtw p hp d dep (by omega) (by omega) ih kd hb hx i v w hv h2 (hps _ (List.getElem_mem h2))
    ·rw [Qod p (d+1) false kd i h2];exact Qla p hp kd dep i v w hv h2 (by omega)
   ·exact Qvh p hp d dep (by omega) (by omega) ih kq hb i v w hv hi (hps _ (List.getElem_mem hi)) ha
end
end Go.Proofs.YtoohondkpddmcaaGreatDoor
