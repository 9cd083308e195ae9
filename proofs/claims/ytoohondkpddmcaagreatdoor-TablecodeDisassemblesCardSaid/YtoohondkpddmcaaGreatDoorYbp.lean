/- Rq Sp Sq -/
import Derived.Test.YtoohondkpddmcaaGreatDoorYzz
import Derived.Test.YtoohondkpddmcaaGreatDoorYbo
import Derived.Test.YtoohondkpddmcaaGreatDoorYax
namespace Go.Proofs.YtoohondkpddmcaaGreatDoor
set_option maxHeartbeats 32000000
set_option linter.unusedVariables false
set_option linter.unusedSimpArgs false
section
open Go.RowKit
attribute [local go_sem] ByteArray.mk_append_mk Qah Qai Qag
attribute [local go_sem] SameB.some SameB.all
set_option maxRecDepth 100000 in
theorem QkX (m:Int) (B b:Nat) (L:List TokI) (sub:UInt8->List TokI->PR) (n:Nat) (kd:UInt8) (i:Nat) (hs:i<L.length->Qqi m B b L sub n) (hg:∀ k r,PGood1 r (sub k r)) (hL1:L.length<=100000) (o:List Nd) (w:World)
  (h:RSt m B b w L i (-1) o) (hn:L.length-i<=n+1) :
  Calls Tryz.prog 98 #[.pointer (some ⟨b,0,none⟩),.int .u8 kd.toNat] w (Qgc m B b L w o (Qif sub kd (L.drop i))):=by
 by_cases hk31:(Qa1 (L.drop i)).kind=31
 ·exact QtP m B b L sub n kd i hs hg hL1 o w h hn hk31
 have HS:=Za hs;have HGD:=Za hg;have hL:L.length<=1000000:=by omega
 obtain ⟨X,hX⟩:∃ X,Hid (Qif sub kd (L.drop i)=X):=⟨_,Za rfl⟩;rw [hX.out];have HK31:=Za hk31;clear hk31;have hFC:=Qig (L.drop i);have hpos:=QkV (L.drop i);have hsl:(Qa1 (L.drop i)).str.length<=65536:=QkW (h.good.drop i);have HIX:=Za h.ix;have HOL:=Za h.ol;have HEM:Hid (L.drop i=[]->(Qa1 (L.drop i)).kind=0):=Za (fun e=>by rw [e]<;>rfl);clear hs hg;have HLK:=Za (QjV m (-1) B b i w L o h hL);have H0:=Za h;obtain ⟨⟨op,num,str,pos⟩,hx⟩:∃ x,Qa1 (L.drop i)=x:=⟨_,rfl⟩;have HXX:=Za hx;rw [hx] at HLK;unfold Qbz at HLK;simp only at HLK;clear h hx;go_enter Tryz.func98,Tryz.ntmps98;go_wp2_with fail;((with_reducible refine HLK.out.mono ?_));rintro e w1 ⟨rfl,hb1⟩;have hal:Below w1.heap.size w1 (w1.alloc (Qae op num str pos)):=Zb.alloc Zc _;have hg2:Below w.heap.size w (w1.alloc (Qae op num str pos)):=Qar hb1 Zc hal;have H2:=Za (H0.out.below hg2);have HB2:Hid (Below B w (w1.alloc (Qae op num str pos))):=Za (hg2.mono H0.out.size);have HG2:=Za hg2;have HQ2:=Za (heap_alloc_new w1 (Qae op num str pos));have hbQ:b<w1.heap.size:=by
  obtain ⟨tv,nv,k1,_⟩:=(H0.out.below hb1).ex;exact lt_of_block k1
 have hwQ:w.heap.size<=w1.heap.size:=hb1.size;clear hb1 hal hg2 HLK;go_upto_region 1 with fail;generalize w1.alloc (Qae op num str pos)=W2 at H2 HB2 HG2 HQ2 |-;generalize w1.heap.size=Q at HQ2 hbQ hwQ |-;go_cut [5] (fun z wx=>∃ nq,z = .bool (op==3&&atT 5 (L.drop (i+1)))/\wx=W2.drewN nq)
 case first =>
  obtain ⟨q0,q1,q2,q3⟩:=Qac HQ2.out;obtain ⟨⟨tv,nv,h1,h2,h3⟩,h4,h5,h6,h7,h8,h9,ha,hc',hd'⟩:=H2.out;obtain ⟨c0,c1,c2,c3⟩:=Qac h1;by_cases e3:op=3
  ·subst e3;cases hd:L.drop (i+1) with
   | nil =>
     obtain ⟨a,cap,rfl,hl,hc⟩:=h2;have hi1:¬ (i:Int)+1<(L.length:Int):=by
      have:=congrArg List.length hd;rw [List.length_drop] at this;simp only [List.length_nil] at this;omega
     have HD:=Za hd;clear hc h3 h6 h8 h1 hd h7 ha hc' hd';go_quiet (fail);go_wp2_with fail;go_meet;exact ⟨_,by rw [HD.out];simp [atT],rfl⟩
   | cons t q =>
     obtain ⟨g,off,cap,rfl,hgB,hi,t0,t1,t2,t3⟩:=h2.drop_cells hd;have hi1:(i:Int)+1<(L.length:Int):=by omega
     have HD:=Za hd;clear h3 h6 h8 h1 hd h7 h9 ha hc' hd' h2 hi;obtain ⟨tk,tn,ts,tp⟩:=t;simp only at t0;go_quiet (fail);go_wp2_with fail;go_meet;exact ⟨_,by rw [HD.out];simp [atT],rfl⟩
  ·have e3':(op==3)=false:=Zd e3;clear h3 h6 h8 h1 h7 h9 ha hc' hd' h2;go_quiet (fail);go_wp2_with fail;go_meet;exact ⟨_,by simp [e3'],rfl⟩
 case rest =>
 obtain ⟨nq,rfl,rfl⟩:=hcut;have H3:Hid (RSt m B b (W2.drewN nq) L i (-1) o):=Za (H2.out.below (below_drewN Zb _));have HB3:Hid (Below B w (W2.drewN nq)):=Za (below_drewN HB2.out _);have HG3:Hid (Below w.heap.size w (W2.drewN nq)):=Za (below_drewN HG2.out _);have HQ3:Hid ((W2.drewN nq).heap[Q]?=some (Qae op num str pos)):=HQ2;obtain ⟨op2,hop2⟩:∃ z,(if (op==3&&(kd==83||(kd==101&&atT 5 (L.drop (i+1)))))=true then (5:Int) else op)=z:=⟨_,rfl⟩;have HOP2:=Za hop2;generalize W2.drewN nq=W3 at H3 HB3 HG3 HQ3 |-;obtain ⟨cl,hcl⟩:∃ z,atT 5 (L.drop (i+1))=z:=⟨_,rfl⟩;rw [hcl] at hop2 |-;clear H2 HB2 HG2 HQ2 hcl;have hk83:=Qao kd 83;have hk101:=Qao kd 101;obtain ⟨b83,hb83⟩:∃ z,(kd==83)=z:=⟨_,rfl⟩;obtain ⟨b101,hb101⟩:∃ z,(kd==101)=z:=⟨_,rfl⟩;obtain ⟨b3,hb3⟩:∃ z,(op==3)=z:=⟨_,rfl⟩;rw [hb83] at hk83 hop2;rw [hb101] at hk101 hop2;rw [hb3] at hop2 |-;have hk83':((kd.toNat:Int)==83)=b83:=hk83;have hk101':((kd.toNat:Int)==101)=b101:=hk101;clear hb83 hb101 hk83 hk101;obtain ⟨q0,q1,q2,q3⟩:=Qac HQ3.out;have fq:=Qam HQ3.out 0;go_upto_region 2 with fail;go_cut [55] (fun z wx=>z = .bool (b3&&(b83||(b101&&(b3&&cl))))/\W3=wx)
 case first =>
  cases b3
  ·go_wp2_with fail;go_meet;exact ⟨by simp,rfl⟩
  ·cases b83
   ·cases b101
    ·go_wp2_with fail;go_meet;exact ⟨by simp,rfl⟩
    ·go_wp2_with fail;go_meet;exact ⟨by simp,rfl⟩
   ·go_wp2_with fail;go_meet;exact ⟨by simp,rfl⟩
 case rest =>
 obtain ⟨rfl,rfl⟩:=hcut;obtain ⟨W3,rfl⟩:∃ y:World,y=W3:=⟨_,rfl⟩;go_upto_if 55 with fail;go_cut [56] (fun z wx=>Hid (wx.heap[Q]?=some (Qae op2 num str pos))/\Hid (Below w.heap.size w wx))
 case first =>
  have HS5:Hid ((W3.setCell ⟨Q,0,none⟩ (.int .i64 5)).heap[Q]?=some (Qae 5 num str pos)):=Za (heap_setCell_same _ _ 0 _ _ _ HQ3.out);have HG5:Hid (Below w.heap.size w (W3.setCell ⟨Q,0,none⟩ (.int .i64 5))):=Za (HG3.out.setCell hwQ _);cases hcb:(b3&&(b83||(b101&&(b3&&cl)))) with
  | true =>
    have e2:op2=5:=by
     rw [<- hop2];refine if_pos ?_;revert hcb;cases b3<;>cases b83<;>cases b101<;>cases cl<;>decide
    have E2:=Za e2;clear e2;go_wp2_with fail;go_meet;rw [E2.out];exact ⟨HS5,HG5⟩
  | false =>
    have e2:op2=op:=by
     rw [<- hop2];refine if_neg ?_;revert hcb;cases b3<;>cases b83<;>cases b101<;>cases cl<;>decide
    have E2:=Za e2;clear e2;go_wp2_with fail;go_meet;rw [E2.out];exact ⟨HQ3,HG3⟩
 case rest =>
 obtain ⟨HQ5,HG5⟩:=hcut;obtain ⟨W5,rfl⟩:∃ y:World,y=wc:=⟨_,rfl⟩;have H5:Hid (RSt m B b W5 L i (-1) o):=Za (H0.out.below HG5.out);clear H3 HB3 HG3 HQ3 q0 q1 q2 q3 fq hop2 hb3 hk83' hk101';rw [HXX.out] at hFC hpos hsl HEM HK31;simp only at hFC hpos hsl HEM HK31;have HXN:Hid (X=if (op2==0||!Qaq kd op2||(kd==115&&!QaV str))=true then .no (L.drop i)
  else if op2=5 then (if atT 5 (L.drop (i+1))=true then Qel sub str (L.drop (i+2)) else .no (L.drop (i+1)))
  else if op2=33 then (if atT 5 (L.drop (i+1))=true then Qeo ⟨33,0,[],1⟩ (Qb2 sub [101] (L.drop (i+1))) else .ok (L.drop (i+1)) [⟨33,0,[],0⟩])
  else if op2=31 then (match Qb2 sub [101,83] (L.drop (i+1)) with
   | .no x=>.no x
   | .ok r1 n1=>if QeJ r1=true then (match QbA sub 83 r1.tail with|.no x=>.no x|.ok r2 n2=>.ok r2 (⟨31,0,[],3⟩::(n1++n2))) else .ok r1 (⟨31,0,[],2⟩::n1))
  else if op2=1\/op2=2\/op2=3\/op2=6\/op2=7\/op2=34\/op2=35 then .ok (L.drop (i+1)) [⟨op2,num,str,0⟩]
  else Qeo ⟨op2,0,[],((Qax op2).2.length:Nat)⟩ (Qb2 sub (Qax op2).2 (L.drop (i+1)))):=Za (by
  rw [<- hX.out,<- HOP2.out];unfold Qif;rw [HXX.out,List.tail_drop,List.tail_drop];rfl)
 have HO2:Hid ((op2=5/\op=3)\/(op2=op/\op≠5)):=Za (by
  rw [<- HOP2.out];by_cases hc:(op==3&&(kd==83||(kd==101&&atT 5 (L.drop (i+1)))))=true
  ·rw [if_pos hc];simp only [Bool.and_eq_true,beq_iff_eq] at hc;exact .inl ⟨rfl,hc.1⟩
  ·rw [if_neg hc];exact .inr ⟨rfl,hFC.1⟩)
 have HFC:=Za hFC;subst hpos;clear hFC HOP2 HXX;obtain ⟨q0,q1,q2,q3⟩:=Qac HQ5.out;obtain ⟨rf,hrf⟩:∃ z,(op2==0||!Qaq kd op2||(kd==115&&!QaV str))=z:=⟨_,rfl⟩;have HRF:=Za hrf;rw [hrf] at HXN;go_upto_region 4 with fail;go_cut [83] (fun z wx=>z = .bool rf/\W5=wx)
 case first =>
  obtain ⟨⟨tv,nv,k1,k2,k3⟩,_⟩:=H5.out;obtain ⟨c0,c1,c2,c3⟩:=Qac k1;clear k1 k2 k3;cases h0:op2==0 with
  | true =>
    have e:rf=true:=by rw [<- hrf,h0];rfl
    subst e;go_wp2_with fail;go_meet;exact ⟨rfl,rfl⟩
  | false =>
    obtain ⟨ab,hab⟩:∃ z,Hid (Qaq kd op2=z):=⟨_,Za rfl⟩;have HPER:=Za (fun w=>Qdc kd op2 ab hab w);cases ab with
    | false =>
      have e:rf=true:=by rw [<- hrf,h0,hab.out];rfl
      subst e;clear hrf HRF;go_wp2_with fail;((with_reducible refine (HPER.out _).mono ?_));rintro e w6 ⟨rfl,rfl⟩;go_wp2_with fail;go_meet;exact ⟨rfl,rfl⟩
    | true =>
      cases hk:kd==115 with
      | false =>
        have e:rf=false:=by rw [<- hrf,h0,hab.out,hk];rfl
        subst e;have hks:=Qul hk;clear hrf HRF;go_wp2_with fail;((with_reducible refine (HPER.out _).mono ?_));rintro e w6 ⟨rfl,rfl⟩;go_wp2_with fail;go_meet;exact ⟨rfl,rfl⟩
      | true =>
        have e:rf=!QaV str:=by rw [<- hrf,h0,hab.out,hk];rfl
        have hkd:kd=115:=beq_iff_eq.1 hk;subst hkd;obtain ⟨sb,hsb⟩:∃ z,Hid (QaV str=z):=⟨_,Za rfl⟩;have HSI:=Za (fun w=>Qgx str sb hsb w (by omega));have HPER2:Hid (∀ w,Calls Tryz.prog 53 #[.int .u8 115,.int .i64 op2] w fun e w'=>e = .returned (.bool true)/\w=w'):=HPER;rw [hsb.out] at e;subst e;clear hrf HRF HPER;go_wp2_with fail;((with_reducible refine (HPER2.out _).mono ?_));rintro e w6 ⟨rfl,rfl⟩;go_wp2_with fail;((with_reducible refine (HSI.out _).mono ?_));rintro e w6 ⟨rfl,rfl⟩;go_wp2_with fail;go_meet;exact ⟨rfl,rfl⟩
 case rest =>
 obtain ⟨rfl,rfl⟩:=hcut;obtain ⟨W5,rfl⟩:∃ y:World,y=W5:=⟨_,rfl⟩;cases rf with
 | true =>
   have HX2:Hid (X = .no (L.drop i)):=Za (by rw [HXN.out,if_pos rfl]);have HFN:=Za (Qg7 m B b i W5 L o H5.out);clear HXN;go_wp2_with fail;((with_reducible refine HFN.out.mono ?_));rintro e w6 ⟨rfl,hp6,hb6⟩;have HP6:=Za hp6;have HB6:Hid (Below B w w6):=Za ((HG5.out.mono H0.out.size).trans hb6);clear hp6 hb6;go_wp2_with fail;(try simp only [Exit.inBlock,Exit.then]);refine bodyPost_ret (results_none rfl _ _ _) rfl ?_;rw [HX2.out];exact ⟨rfl,HB6.out,_,_,_,rfl,HP6.out⟩
 | false =>
   have hrf2:=HRF.out;simp only [Bool.or_eq_false_iff,beq_eq_false_iff_ne,Bool.not_eq_false'] at hrf2;have h0:op2≠0:=hrf2.1.1;have hil:i<L.length:=by
    rcases Nat.lt_or_ge i L.length with h|h
    ·exact h
    ·exfalso;have e0:=HEM.out (List.drop_eq_nil_of_le h);rcases HO2.out with ⟨_,e3⟩|⟨e,_⟩
     ·omega
     ·exact h0 (e.trans e0)
   have HS2:=Za (HS.out hil);have HXB:Hid (X=if op2=5 then (if atT 5 (L.drop (i+1))=true then Qel sub str (L.drop (i+2)) else .no (L.drop (i+1)))
    else if op2=33 then (if atT 5 (L.drop (i+1))=true then Qeo ⟨33,0,[],1⟩ (Qb2 sub [101] (L.drop (i+1))) else .ok (L.drop (i+1)) [⟨33,0,[],0⟩])
    else if op2=31 then (match Qb2 sub [101,83] (L.drop (i+1)) with
     | .no x=>.no x
     | .ok r1 n1=>if QeJ r1=true then (match QbA sub 83 r1.tail with|.no x=>.no x|.ok r2 n2=>.ok r2 (⟨31,0,[],3⟩::(n1++n2))) else .ok r1 (⟨31,0,[],2⟩::n1))
    else if op2=1\/op2=2\/op2=3\/op2=6\/op2=7\/op2=34\/op2=35 then .ok (L.drop (i+1)) [⟨op2,num,str,0⟩]
    else Qeo ⟨op2,0,[],((Qax op2).2.length:Nat)⟩ (Qb2 sub (Qax op2).2 (L.drop (i+1)))):=Za (by rw [HXN.out,if_neg (by decide)])
   have HH0:=Za h0;clear HXN hrf hrf2 h0 HRF;have KEY:=Za (H5.out.setI (j:=i+1) (by omega) (by omega));rw [show ((i+1:Nat):Int)=(i:Int)+1 by omega] at KEY;obtain ⟨⟨tv,nv,k1,k2,k3⟩,_⟩:=H5.out;obtain ⟨c0,c1,c2,c3⟩:=Qac k1;have f1:=Qam k1 1;have HQ6:Hid ((W5.setCell ⟨b,1,none⟩ (.int .i64 ((i:Int)+1))).heap[Q]?=some (Qae op2 num str 0)):=Za (QbB HQ5.out _ _ (by show Q≠b;omega));have HB6:Hid (Below B w (W5.setCell ⟨b,1,none⟩ (.int .i64 ((i:Int)+1)))):=Za ((HG5.out.mono H0.out.size).setCell H0.out.base _);have hownQ:∀ tv nv,(W5.setCell ⟨b,1,none⟩ (.int .i64 ((i:Int)+1))).heap[b]?=some (Qd4 tv (i+1:Nat) nv (-1))->nv.ownBlock≠some Q:=by
    intro tv2 nv2 hk2 e;obtain ⟨tv0,nv0,j1,j2,j3⟩:=H0.out.ex;have j4:=Qad j1 HG5.out;have j5:=heap_setCell_same _ _ 1 _ _ (.int .i64 ((i:Int)+1)) j4;rw [j5] at hk2;injection hk2 with hk2;injection hk2 with hk2 _ _;have:nv0=nv2:=by
     have:=congrArg (fun a:Array Value=>a.getD 2 undef) hk2;simpa using this
    subst this;have:=Qfn j3 e;omega
   clear k1 k2 k3;go_upto_region 7 with fail;generalize W5.setCell ⟨b,1,none⟩ (.int .i64 ((i:Int)+1))=W6 at KEY HQ6 HB6 hownQ |-;clear c0 c1 c2 c3 f1 q0 q1 q2 q3;have HAD:=Za (QmJ m (-1) B b (i+1) op2 num 0 str W6 L o KEY.out (by have:=HOL.out;omega) (by have:=HOL.out;omega));unfold Qbz at HAD;have hQ6:Q<W6.heap.size:=lt_of_block HQ6.out;obtain ⟨q0,q1,q2,q3⟩:=Qac HQ6.out;go_wp2_with fail;((with_reducible refine HAD.out.mono ?_));rintro e w7 ⟨rfl,hp7,hb7,hfr⟩;have HP7:=Za hp7;have HB7:Hid (Below B w w7):=Za (HB6.out.trans hb7);have HQ7:=Za ((hfr Q hQ6 (by omega) hownQ).trans HQ6.out);clear hp7 hb7 hfr HAD q0 q1 q2 q3 hQ6 hownQ KEY HQ6 HB6 HQ5 HG5;obtain ⟨q0,q1,q2,q3⟩:=Qac HQ7.out;by_cases h5:op2=5
   ·subst h5;have hop3:op=3:=by
     rcases HO2.out with ⟨_,e⟩|⟨e,e2⟩
     ·exact e
     ·exact absurd e.symm e2
    have hn0:num=0:=HFC.out.2.1 hop3;subst hn0;have HX2:Hid (X=if atT 5 (L.drop (i+1))=true then Qel sub str (L.drop (i+1)).tail else .no (L.drop (i+1))):=Za (by rw [HXB.out,if_pos rfl,List.tail_drop]);have HCH:=Za (Qqj m B b L sub n HS2.out HGD.out hL1 str (i+1) o w7 HP7.out (by omega));rw [<- HX2.out] at HCH;clear HXB hop3;go_wp2_with fail;((with_reducible refine HCH.out.mono ?_));rintro e w8 ⟨rfl,hb8,hres⟩;have HB8:Hid (Below B w w8):=Za (HB7.out.trans hb8);have HRS:=Za hres;clear hb8 hres;go_wp2_with fail;go_end0;exact ⟨rfl,HB8.out,HRS.out⟩
   have e5:(op2==5)=false:=Zd h5;have hopo:op2=op:=by
    rcases HO2.out with ⟨e,_⟩|⟨e,_⟩
    ·exact absurd e h5
    ·exact e
   by_cases h33:op2=33
   ·obtain ⟨hn0,hs0,_⟩:=HFC.out.2.2 (by omega) (by omega) (by omega) (by omega) (by omega) (by omega);subst hn0 hs0;clear hopo;subst h33;have HXC:Hid (X=if atT 5 (L.drop (i+1))=true then Qeo ⟨33,0,[],1⟩ (Qb2 sub [101] (L.drop (i+1))) else .ok (L.drop (i+1)) [⟨33,0,[],0⟩]):=Za (by rw [HXB.out,if_neg (by decide),if_pos rfl]);have HK:=Za (QeR m (-1) B b (i+1) w7 L _ HP7.out (by omega));have HCH0:=Za (fun q=>Qex m B b L sub n HS2.out HGD.out hL1 [101] 1 QtO (by simp) (by decide) 33 0 0 [] (i+1) o (w7.drewN q) (HP7.out.below (below_drewN Zb q)) (by omega));clear HXB h5;cases ht5:atT 5 (L.drop (i+1)) with
    | true =>
      have hz:(Qeq (L.drop (i+1))==5)=true:=by rw [QfA 5 (by decide),ht5]
      have HX2:Hid (X=Qeo ⟨33,0,[],([(101:UInt8)].length:Nat)⟩ (Qb2 sub [101] (L.drop (i+1)))):=Za (by rw [HXC.out,ht5,if_pos rfl]<;>rfl);generalize Qeq (L.drop (i+1))=z at HK hz;clear HXC ht5;go_wp2_with fail;((with_reducible refine HK.out.mono ?_));rintro e w8 ⟨rfl,q,rfl⟩;have HCH:=Za (HCH0.out q);rw [<- HX2.out] at HCH;go_wp2_with fail;((with_reducible refine HCH.out.mono ?_));rintro e w8 ⟨rfl,hb8,hres⟩;have HB8:Hid (Below B w w8):=Za ((below_drewN HB7.out q).trans hb8);have HRS:=Za hres;clear hb8 hres;go_wp2_with fail;go_end0;exact ⟨rfl,HB8.out,HRS.out⟩
    | false =>
      have hz:(Qeq (L.drop (i+1))==5)=false:=by rw [QfA 5 (by decide),ht5]
      have HX2:Hid (X = .ok (L.drop (i+1)) [⟨33,0,[],0⟩]):=Za (by rw [HXC.out,ht5,if_neg (by decide)]);generalize Qeq (L.drop (i+1))=z at HK hz;clear HXC ht5 HCH0;go_wp2_with fail;((with_reducible refine HK.out.mono ?_));rintro e w8 ⟨rfl,q,rfl⟩;go_wp2_with fail;go_end0;rw [HX2.out];exact ⟨rfl,below_drewN HB7.out q,_,rfl,HP7.out.below (below_drewN Zb q)⟩
   have e33:(op2==33)=false:=Zd h33;by_cases h31:op2=31
   ·exact absurd (hopo.symm.trans h31) HK31.out
   have e31:(op2==31)=false:=Zd h31;by_cases hlf:op2=1\/op2=2\/op2=3\/op2=6\/op2=7\/op2=34\/op2=35
   ·have HX2:Hid (X = .ok (L.drop (i+1)) [⟨op2,num,str,0⟩]):=Za (by rw [HXB.out,if_neg h5,if_neg h33,if_neg h31,if_pos hlf]);clear HXB h5 h33 h31 hopo HO2 HFC HEM;rcases hlf with rfl|rfl|rfl|rfl|rfl|rfl|rfl
    all_goals
     go_wp2_with fail;go_end0;rw [HX2.out];exact ⟨rfl,HB7.out,_,rfl,HP7.out⟩
   ·obtain ⟨hn0,hs0,htab⟩:=HFC.out.2.2 (by have:=HH0.out;omega) (by omega) (by omega) (by omega) (by omega) (by omega);subst hn0 hs0;rw [<- hopo] at htab;have HX2:Hid (X=Qeo ⟨op2,0,[],((Qax op2).2.length:Nat)⟩ (Qb2 sub (Qax op2).2 (L.drop (i+1)))):=Za (by rw [HXB.out,if_neg h5,if_neg h33,if_neg h31,if_neg hlf]);have g1:(op2==1)=false:=Zd (by omega);have g2:(op2==2)=false:=Zd (by omega);have g3:(op2==3)=false:=Zd (by omega);have g6:(op2==6)=false:=Zd (by omega);have g7:(op2==7)=false:=Zd (by omega);have g34:(op2==34)=false:=Zd (by omega);have g35:(op2==35)=false:=Zd (by omega);obtain ⟨a,hka⟩:=QkL op2;have hne:(Qax op2).2≠[]:=by
     intro e;obtain ⟨z,rfl⟩:=QfB htab;have:=Qr6 z e htab;omega
    have hbk:∀ k∈(Qax op2).2,Qf2 k=QaZ k:=by
     obtain ⟨z,rfl⟩:=QfB htab;exact Qqm z
    have HRO:=Za (QhD op2 w7);rw [QjA htab] at HRO;obtain ⟨⟨fw,fk⟩,hfp⟩:∃ z,Qax op2=z:=⟨_,rfl⟩;rw [hfp] at HRO HX2 hka hne hbk;simp only [Qec,Option.isSome_some] at HRO HX2 hka hne hbk;have HCH0:=Za (fun (x:World) (hx:Below w7.heap.size w7 x)=>Qex m B b L sub n HS2.out HGD.out hL1 fk a hka hne hbk op2 0 0 [] (i+1) o x (HP7.out.below hx) (by omega));clear HXB h5 h33 h31 hopo HO2 HFC HEM htab hfp hka hne hbk hlf HH0;go_wp2_with fail;((with_reducible refine HRO.out.mono ?_));rintro e w8 ⟨rfl,hb8⟩;have hal:Below w7.heap.size w7 (w8.alloc (QbG op2 fw fk)):=Qar hb8 Zc (Zb.alloc Zc _);have hcell:=heap_alloc_new w8 (QbG op2 fw fk);have HCH:=Za (HCH0.out _ hal);have HB9:Hid (Below B w (w8.alloc (QbG op2 fw fk))):=Za (HB7.out.trans (hal.mono HP7.out.size));rw [<- HX2.out] at HCH;clear hb8 hal HRO HCH0;go_upto_region 10 with fail;generalize w8.alloc (QbG op2 fw fk)=W9 at hcell HCH HB9 |-;obtain ⟨r0,r1,r2⟩:=QaT hcell;go_wp2_with fail;((with_reducible refine HCH.out.mono ?_));rintro e w10 ⟨rfl,hb10,hres⟩;have HB10:Hid (Below B w w10):=Za (HB9.out.trans hb10);have HRS:=Za hres;clear hb10 hres;go_wp2_with fail;go_end0;exact ⟨rfl,HB10.out,HRS.out⟩
theorem QmK (m:Int) (B b:Nat) (L:List TokI) (hL:L.length<=100000):∀ f,Qqi m B b L (Qe6 f) f
 | 0,k,i,o,w,h,hn=>by
   have hi:L.drop i=[]:=List.drop_eq_nil_of_le (by omega);have:=QkX m B b L (fun _ r=>.no r) 0 k i (fun h=>by omega) (fun k r=>⟨0,rfl⟩) hL o w h (by omega);rw [hi] at this |-;exact this
 | f+1,k,i,o,w,h,hn=>by
   rw [<- Qn9];exact QkX m B b L (Qe6 f) f k i (fun _=>QmK m B b L hL f) (QfO f) hL o w h hn
end
section
open Go.RowKit
attribute [local go_sem] ByteArray.mk_append_mk Qah Qai Qag
def QmL (t:Tok):Prop:=t.str.length<=65536/\(t.kind=2->t.str≠[])
theorem QmM (s:List UInt8) (hs:s.length<=65536):∀ (f p:Nat) (acc:List Tok),p<=s.length->(∀ t∈acc,QmL t)->∀ t∈(QdD s f p acc).1,QmL t
 | 0,p,acc,hp,h=>by rw [QdD];exact h
 | f+1,p,acc,hp,h=>by
   obtain ⟨q,hq1,hq2,e1,e2⟩:=Qe4 s p hp;unfold QdD;rw [e2,e1];split
   ·intro t ht;cases ht
   ·split
    ·exact h
    ·split
     ·intro t ht;cases ht
     ·next k v t n hi =>
      have hn:1<=n/\n<=(s.drop q).length:=Qfr hi;obtain ⟨g1,g2⟩:=QpX hi;rw [List.length_drop] at hn g1;refine QmM s hs f (q+n) _ (by omega) (fun x hx=>?_);rcases List.mem_append.1 hx with hx|hx
      ·exact h x hx
      ·simp only [List.mem_cons,List.not_mem_nil,or_false] at hx;subst hx;exact ⟨by show t.length<=65536;omega,g2⟩
theorem Qr7 (s:List UInt8):∀ t∈(Qeg s).1,QmL t:=by
 unfold Qeg;split
 ·intro t ht;cases ht
 ·exact QmM s (by omega) _ 0 [] (by omega) (fun t ht=>by cases ht)
theorem Qqo {l:List Tok} (h:∀ t∈l,QmL t):TGood (l.map Tok.toI):=by
 intro t ht;obtain ⟨x,hx,rfl⟩:=List.mem_map.1 ht;exact ⟨(h x hx).1,fun hk=>(h x hx).2 (by have:(x.kind:Int)=2:=hk;omega)⟩
theorem Toks.tokB {w:World} {B:Nat} {v:Value} {l:List Tok} (h:Toks w B v l):TokB w w.heap.size v (l.map Tok.toI):=by
 obtain ⟨a,c,rfl⟩:=h.form;have hcap:l.length<=c:=by
  rcases h.2 with ⟨hv,h0⟩|⟨g,cap,cur,hv,hb,hg,hn,_⟩
  ·injection hv with _ _ e;omega
  ·injection hv with _ _ e;omega
 refine ⟨a,c,by rw [List.length_map],by rw [List.length_map];exact hcap,fun hne=>?_⟩;have hpos:0<l.length:=by
  cases l with
  | nil=>exact absurd rfl hne
  | cons x y=>simp
 obtain ⟨b,ha,hB,q0,_⟩:=h.cells 0 hpos;refine ⟨b,0,ha,World.block_lt_of_cell? w _ q0,fun i hi=>?_⟩;rw [List.length_map] at hi;obtain ⟨b2,ha2,_,k0,k1,k2,k3⟩:=h.cells i hi;rw [ha] at ha2;injection ha2 with ha2;injection ha2 with ha2;subst ha2;rw [Nat.zero_add,List.getElem_map];exact ⟨k0,k1,k2,k3⟩
def QeU (F:Nat):Nat->List Nd->List TokI->PR
 | 0,ns,r=>.ok r ns
 | f+1,ns,r=>if r=[] then .ok [] ns else match Qe6 F 68 r with
   | .no x=>.no x
   | .ok r1 n1=>QeU F f (ns++n1) r1
def Qr8 (E:Int):PR->List Nd×Int×Int
 | .no x=>([],Qvl E x,2)
 | .ok _ ns=>if Qbk ns=true then (ns,0,0) else ([],0,11)
def Qoa (E:Int) (l:List TokI):List Nd×Int×Int:=Qr8 E (QeU l.length l.length [] l)
def QjY (s:List UInt8):List Nd×Int×Int :=
 if (Qeg s).2.2≠0 then ([],(Qeg s).2.1,(Qeg s).2.2) else Qoa s.length ((Qeg s).1.map Tok.toI)
def NdsOk (l:List Nd):Prop:=∀ t∈l,t.str.length<=4000000000/\0<=t.num
theorem NdsOk.app {a b:List Nd} (h:NdsOk a) (k:NdsOk b):NdsOk (a++b):=fun t ht=>by
 rcases List.mem_append.1 ht with ht|ht
 ·exact h t ht
 ·exact k t ht
theorem NdsOk.cons {a:List Nd} {n:Nd} (hn:n.str.length<=4000000000/\0<=n.num) (h:NdsOk a):NdsOk (n::a):=fun t ht=>by
 rcases List.mem_cons.1 ht with rfl|ht
 ·exact hn
 ·exact h t ht
theorem NdsOk.tail {a:List Nd} (h:NdsOk a):NdsOk a.tail:=fun t ht=>h t (List.mem_of_mem_tail ht)
theorem NdsOk.nil:NdsOk []:=fun t ht=>by cases ht
def NG (x:PR):Prop:=match x with
 | .no _=>True
 | .ok r ns=>NdsOk r/\NdsOk ns
section
variable {sub:UInt8->List TokI->PR} (hs:∀ k r,NdsOk r->NG (sub k r))
include hs
end
def Qdg (w:World) (x:List Nd×Int×Int) (e:Ending) (w':World):Prop :=
 ∃ v,e = .returned (.tuple #[v,.int .i64 x.2.1,.int .i64 x.2.2])/\NodesI w' w.heap.size v x.1/\Below w.heap.size w w'
end
section
open Go.RowKit
attribute [local go_sem] ByteArray.mk_append_mk Qah Qai Qag
end
end Go.Proofs.YtoohondkpddmcaaGreatDoor
