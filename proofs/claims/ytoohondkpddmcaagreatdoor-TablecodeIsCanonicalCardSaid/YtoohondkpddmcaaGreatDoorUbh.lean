/- Rq Sp Sq Rt Sr -/
import Derived.Test.YtoohondkpddmcaaGreatDoorUzz
import Derived.Test.YtoohondkpddmcaaGreatDoorUbg
import Derived.Test.YtoohondkpddmcaaGreatDoorUat
import Derived.Test.YtoohondkpddmcaaGreatDoorUaw
namespace Go.Proofs.YtoohondkpddmcaaGreatDoor
set_option maxHeartbeats 32000000
set_option linter.unusedVariables false
set_option linter.unusedSimpArgs false
section
open Go.RowKit
attribute [local go_sem] ByteArray.mk_append_mk Qac Qad Qae
attribute [local go_sem] SameB.some SameB.all
set_option maxRecDepth 100000 in
theorem QmB (m:Int) (B b:Nat) (L:List TokI) (sub:UInt8->List TokI->PR) (n:Nat) (kd:UInt8) (i:Nat) (hs:i<L.length->Qr1 m B b L sub n) (hg:∀ k r,PGood1 r (sub k r)) (hL1:L.length<=100000) (o:List Nd) (w:World)
  (h:RSt m B b w L i (-1) o) (hn:L.length-i<=n+1) :
  Calls Tryz.prog 98 #[.pointer (some ⟨b,0,none⟩),.int .u8 kd.toNat] w (QhF m B b L w o (QjK sub kd (L.drop i))):=by
 by_cases hk31:(Qa9 (L.drop i)).kind=31
 ·exact Qvs m B b L sub n kd i hs hg hL1 o w h hn hk31
 have HS:=Za hs;have HGD:=Za hg;have hL:L.length<=1000000:=by omega
 obtain ⟨X,hX⟩:∃ X,Hid (QjK sub kd (L.drop i)=X):=⟨_,Za rfl⟩;rw [hX.out];have HK31:=Za hk31;clear hk31;have hFC:=QjL (L.drop i);have hpos:=Qmz (L.drop i);have hsl:(Qa9 (L.drop i)).str.length<=65536:=QmA (h.good.drop i);have HIX:=Za h.ix;have HOL:=Za h.ol;have HEM:Hid (L.drop i=[]->(Qa9 (L.drop i)).kind=0):=Za (fun e=>by rw [e]<;>rfl);clear hs hg;have HLK:=Za (Qlj m (-1) B b i w L o h hL);have H0:=Za h;obtain ⟨⟨op,num,str,pos⟩,hx⟩:∃ x,Qa9 (L.drop i)=x:=⟨_,rfl⟩;have HXX:=Za hx;rw [hx] at HLK;unfold QbB at HLK;simp only at HLK;clear h hx;go_enter Tryz.func98,Tryz.ntmps98;go_wp2_with fail;((with_reducible refine HLK.out.mono ?_));rintro e w1 ⟨rfl,hb1⟩;have hal:Below w1.heap.size w1 (w1.alloc (Qaj op num str pos)):=Zb.alloc Zc _;have hg2:Below w.heap.size w (w1.alloc (Qaj op num str pos)):=Qah hb1 Zc hal;have H2:=Za (H0.out.below hg2);have HB2:Hid (Below B w (w1.alloc (Qaj op num str pos))):=Za (hg2.mono H0.out.size);have HG2:=Za hg2;have HQ2:=Za (heap_alloc_new w1 (Qaj op num str pos));have hbQ:b<w1.heap.size:=by
  obtain ⟨tv,nv,k1,_⟩:=(H0.out.below hb1).ex;exact lt_of_block k1
 have hwQ:w.heap.size<=w1.heap.size:=hb1.size;clear hb1 hal hg2 HLK;go_upto_region 1 with fail;generalize w1.alloc (Qaj op num str pos)=W2 at H2 HB2 HG2 HQ2 |-;generalize w1.heap.size=Q at HQ2 hbQ hwQ |-;go_cut [5] (fun z wx=>∃ nq,z = .bool (op==3&&atT 5 (L.drop (i+1)))/\wx=W2.drewN nq)
 case first =>
  obtain ⟨q0,q1,q2,q3⟩:=Qaa HQ2.out;obtain ⟨⟨tv,nv,h1,h2,h3⟩,h4,h5,h6,h7,h8,h9,ha,hc',hd'⟩:=H2.out;obtain ⟨c0,c1,c2,c3⟩:=Qaa h1;by_cases e3:op=3
  ·subst e3;cases hd:L.drop (i+1) with
   | nil =>
     obtain ⟨a,cap,rfl,hl,hc⟩:=h2;have hi1:¬ (i:Int)+1<(L.length:Int):=by
      have:=congrArg List.length hd;rw [List.length_drop] at this;simp only [List.length_nil] at this;omega
     have HD:=Za hd;clear hc h3 h6 h8 h1 hd h7 ha hc' hd';go_quiet (fail);go_wp2_with fail;go_meet;exact ⟨_,by rw [HD.out];simp [atT],rfl⟩
   | cons t q =>
     obtain ⟨g,off,cap,rfl,hgB,hi,t0,t1,t2,t3⟩:=h2.drop_cells hd;have hi1:(i:Int)+1<(L.length:Int):=by omega
     have HD:=Za hd;clear h3 h6 h8 h1 hd h7 h9 ha hc' hd' h2 hi;obtain ⟨tk,tn,ts,tp⟩:=t;simp only at t0;go_quiet (fail);go_wp2_with fail;go_meet;exact ⟨_,by rw [HD.out];simp [atT],rfl⟩
  ·have e3':(op==3)=false:=Zd e3;clear h3 h6 h8 h1 h7 h9 ha hc' hd' h2;go_quiet (fail);go_wp2_with fail;go_meet;exact ⟨_,by simp [e3'],rfl⟩
 case rest =>
 obtain ⟨nq,rfl,rfl⟩:=hcut;have H3:Hid (RSt m B b (W2.drewN nq) L i (-1) o):=Za (H2.out.below (below_drewN Zb _));have HB3:Hid (Below B w (W2.drewN nq)):=Za (below_drewN HB2.out _);have HG3:Hid (Below w.heap.size w (W2.drewN nq)):=Za (below_drewN HG2.out _);have HQ3:Hid ((W2.drewN nq).heap[Q]?=some (Qaj op num str pos)):=HQ2;obtain ⟨op2,hop2⟩:∃ z,(if (op==3&&(kd==83||(kd==101&&atT 5 (L.drop (i+1)))))=true then (5:Int) else op)=z:=⟨_,rfl⟩;have HOP2:=Za hop2;generalize W2.drewN nq=W3 at H3 HB3 HG3 HQ3 |-;obtain ⟨cl,hcl⟩:∃ z,atT 5 (L.drop (i+1))=z:=⟨_,rfl⟩;rw [hcl] at hop2 |-;clear H2 HB2 HG2 HQ2 hcl;have hk83:=Qao kd 83;have hk101:=Qao kd 101;obtain ⟨b83,hb83⟩:∃ z,(kd==83)=z:=⟨_,rfl⟩;obtain ⟨b101,hb101⟩:∃ z,(kd==101)=z:=⟨_,rfl⟩;obtain ⟨b3,hb3⟩:∃ z,(op==3)=z:=⟨_,rfl⟩;rw [hb83] at hk83 hop2;rw [hb101] at hk101 hop2;rw [hb3] at hop2 |-;have hk83':((kd.toNat:Int)==83)=b83:=hk83;have hk101':((kd.toNat:Int)==101)=b101:=hk101;clear hb83 hb101 hk83 hk101;obtain ⟨q0,q1,q2,q3⟩:=Qaa HQ3.out;have fq:=Qay HQ3.out 0;go_upto_region 2 with fail;go_cut [55] (fun z wx=>z = .bool (b3&&(b83||(b101&&(b3&&cl))))/\W3=wx)
 case first =>
  cases b3
  ·go_wp2_with fail;go_meet;exact ⟨by simp,rfl⟩
  ·cases b83
   ·cases b101
    ·go_wp2_with fail;go_meet;exact ⟨by simp,rfl⟩
    ·go_wp2_with fail;go_meet;exact ⟨by simp,rfl⟩
   ·go_wp2_with fail;go_meet;exact ⟨by simp,rfl⟩
 case rest =>
 obtain ⟨rfl,rfl⟩:=hcut;obtain ⟨W3,rfl⟩:∃ y:World,y=W3:=⟨_,rfl⟩;go_upto_if 55 with fail;go_cut [56] (fun z wx=>Hid (wx.heap[Q]?=some (Qaj op2 num str pos))/\Hid (Below w.heap.size w wx))
 case first =>
  have HS5:Hid ((W3.setCell ⟨Q,0,none⟩ (.int .i64 5)).heap[Q]?=some (Qaj 5 num str pos)):=Za (heap_setCell_same _ _ 0 _ _ _ HQ3.out);have HG5:Hid (Below w.heap.size w (W3.setCell ⟨Q,0,none⟩ (.int .i64 5))):=Za (HG3.out.setCell hwQ _);cases hcb:(b3&&(b83||(b101&&(b3&&cl)))) with
  | true =>
    have e2:op2=5:=by
     rw [<- hop2];refine if_pos ?_;revert hcb;cases b3<;>cases b83<;>cases b101<;>cases cl<;>decide
    have E2:=Za e2;clear e2;go_wp2_with fail;go_meet;rw [E2.out];exact ⟨HS5,HG5⟩
  | false =>
    have e2:op2=op:=by
     rw [<- hop2];refine if_neg ?_;revert hcb;cases b3<;>cases b83<;>cases b101<;>cases cl<;>decide
    have E2:=Za e2;clear e2;go_wp2_with fail;go_meet;rw [E2.out];exact ⟨HQ3,HG3⟩
 case rest =>
 obtain ⟨HQ5,HG5⟩:=hcut;obtain ⟨W5,rfl⟩:∃ y:World,y=wc:=⟨_,rfl⟩;have H5:Hid (RSt m B b W5 L i (-1) o):=Za (H0.out.below HG5.out);clear H3 HB3 HG3 HQ3 q0 q1 q2 q3 fq hop2 hb3 hk83' hk101';rw [HXX.out] at hFC hpos hsl HEM HK31;simp only at hFC hpos hsl HEM HK31;have HXN:Hid (X=if (op2==0||!Qar kd op2||(kd==115&&!Qa2 str))=true then .no (L.drop i)
  else if op2=5 then (if atT 5 (L.drop (i+1))=true then QeI sub str (L.drop (i+2)) else .no (L.drop (i+1)))
  else if op2=33 then (if atT 5 (L.drop (i+1))=true then QeL ⟨33,0,[],1⟩ (Qca sub [101] (L.drop (i+1))) else .ok (L.drop (i+1)) [⟨33,0,[],0⟩])
  else if op2=31 then (match Qca sub [101,83] (L.drop (i+1)) with
   | .no x=>.no x
   | .ok r1 n1=>if Qfk r1=true then (match QbC sub 83 r1.tail with|.no x=>.no x|.ok r2 n2=>.ok r2 (⟨31,0,[],3⟩::(n1++n2))) else .ok r1 (⟨31,0,[],2⟩::n1))
  else if op2=1\/op2=2\/op2=3\/op2=6\/op2=7\/op2=34\/op2=35 then .ok (L.drop (i+1)) [⟨op2,num,str,0⟩]
  else QeL ⟨op2,0,[],((QaE op2).2.length:Nat)⟩ (Qca sub (QaE op2).2 (L.drop (i+1)))):=Za (by
  rw [<- hX.out,<- HOP2.out];unfold QjK;rw [HXX.out,List.tail_drop,List.tail_drop]<;>rfl)
 have HO2:Hid ((op2=5/\op=3)\/(op2=op/\op≠5)):=Za (by
  rw [<- HOP2.out];by_cases hc:(op==3&&(kd==83||(kd==101&&atT 5 (L.drop (i+1)))))=true
  ·rw [if_pos hc];simp only [Bool.and_eq_true,beq_iff_eq] at hc;exact .inl ⟨rfl,hc.1⟩
  ·rw [if_neg hc];exact .inr ⟨rfl,hFC.1⟩)
 have HFC:=Za hFC;subst hpos;clear hFC HOP2 HXX;obtain ⟨q0,q1,q2,q3⟩:=Qaa HQ5.out;obtain ⟨rf,hrf⟩:∃ z,(op2==0||!Qar kd op2||(kd==115&&!Qa2 str))=z:=⟨_,rfl⟩;have HRF:=Za hrf;rw [hrf] at HXN;go_upto_region 4 with fail;go_cut [83] (fun z wx=>z = .bool rf/\W5=wx)
 case first =>
  obtain ⟨⟨tv,nv,k1,k2,k3⟩,_⟩:=H5.out;obtain ⟨c0,c1,c2,c3⟩:=Qaa k1;clear k1 k2 k3;cases h0:op2==0 with
  | true =>
    have e:rf=true:=by rw [<- hrf,h0];rfl
    subst e;go_wp2_with fail;go_meet;exact ⟨rfl,rfl⟩
  | false =>
    obtain ⟨ab,hab⟩:∃ z,Hid (Qar kd op2=z):=⟨_,Za rfl⟩;have HPER:=Za (fun w=>Qi5 kd op2 ab hab w);cases ab with
    | false =>
      have e:rf=true:=by rw [<- hrf,h0,hab.out];rfl
      subst e;clear hrf HRF;go_wp2_with fail;((with_reducible refine (HPER.out _).mono ?_));rintro e w6 ⟨rfl,rfl⟩;go_wp2_with fail;go_meet;exact ⟨rfl,rfl⟩
    | true =>
      cases hk:kd==115 with
      | false =>
        have e:rf=false:=by rw [<- hrf,h0,hab.out,hk];rfl
        subst e;have hks:=QvZ hk;clear hrf HRF;go_wp2_with fail;((with_reducible refine (HPER.out _).mono ?_));rintro e w6 ⟨rfl,rfl⟩;go_wp2_with fail;go_meet;exact ⟨rfl,rfl⟩
      | true =>
        have e:rf=!Qa2 str:=by rw [<- hrf,h0,hab.out,hk];rfl
        have hkd:kd=115:=beq_iff_eq.1 hk;subst hkd;obtain ⟨sb,hsb⟩:∃ z,Hid (Qa2 str=z):=⟨_,Za rfl⟩;have HSI:=Za (fun w=>Qh0 str sb hsb w (by omega));have HPER2:Hid (∀ w,Calls Tryz.prog 53 #[.int .u8 115,.int .i64 op2] w fun e w'=>e = .returned (.bool true)/\w=w'):=HPER;rw [hsb.out] at e;subst e;clear hrf HRF HPER;go_wp2_with fail;((with_reducible refine (HPER2.out _).mono ?_));rintro e w6 ⟨rfl,rfl⟩;go_wp2_with fail;((with_reducible refine (HSI.out _).mono ?_));rintro e w6 ⟨rfl,rfl⟩;go_wp2_with fail;go_meet;exact ⟨rfl,rfl⟩
 case rest =>
 obtain ⟨rfl,rfl⟩:=hcut;obtain ⟨W5,rfl⟩:∃ y:World,y=W5:=⟨_,rfl⟩;cases rf with
 | true =>
   have HX2:Hid (X = .no (L.drop i)):=Za (by rw [HXN.out,if_pos rfl]);have HFN:=Za (Qiz m B b i W5 L o H5.out);clear HXN;go_wp2_with fail;((with_reducible refine HFN.out.mono ?_));rintro e w6 ⟨rfl,hp6,hb6⟩;have HP6:=Za hp6;have HB6:Hid (Below B w w6):=Za ((HG5.out.mono H0.out.size).trans hb6);clear hp6 hb6;go_wp2_with fail;(try simp only [Exit.inBlock,Exit.then]);refine bodyPost_ret (results_none rfl _ _ _) rfl ?_;rw [HX2.out];exact ⟨rfl,HB6.out,_,_,_,rfl,HP6.out⟩
 | false =>
   have hrf2:=HRF.out;simp only [Bool.or_eq_false_iff,beq_eq_false_iff_ne,Bool.not_eq_false'] at hrf2;have h0:op2≠0:=hrf2.1.1;have hil:i<L.length:=by
    rcases Nat.lt_or_ge i L.length with h|h
    ·exact h
    ·exfalso;have e0:=HEM.out (List.drop_eq_nil_of_le h);rcases HO2.out with ⟨_,e3⟩|⟨e,_⟩
     ·omega
     ·exact h0 (e.trans e0)
   have HS2:=Za (HS.out hil);have HXB:Hid (X=if op2=5 then (if atT 5 (L.drop (i+1))=true then QeI sub str (L.drop (i+2)) else .no (L.drop (i+1)))
    else if op2=33 then (if atT 5 (L.drop (i+1))=true then QeL ⟨33,0,[],1⟩ (Qca sub [101] (L.drop (i+1))) else .ok (L.drop (i+1)) [⟨33,0,[],0⟩])
    else if op2=31 then (match Qca sub [101,83] (L.drop (i+1)) with
     | .no x=>.no x
     | .ok r1 n1=>if Qfk r1=true then (match QbC sub 83 r1.tail with|.no x=>.no x|.ok r2 n2=>.ok r2 (⟨31,0,[],3⟩::(n1++n2))) else .ok r1 (⟨31,0,[],2⟩::n1))
    else if op2=1\/op2=2\/op2=3\/op2=6\/op2=7\/op2=34\/op2=35 then .ok (L.drop (i+1)) [⟨op2,num,str,0⟩]
    else QeL ⟨op2,0,[],((QaE op2).2.length:Nat)⟩ (Qca sub (QaE op2).2 (L.drop (i+1)))):=Za (by rw [HXN.out,if_neg (by decide)])
   have HH0:=Za h0;clear HXN hrf hrf2 h0 HRF;have KEY:=Za (H5.out.setI (j:=i+1) (by omega) (by omega));rw [show ((i+1:Nat):Int)=(i:Int)+1 by omega] at KEY;obtain ⟨⟨tv,nv,k1,k2,k3⟩,_⟩:=H5.out;obtain ⟨c0,c1,c2,c3⟩:=Qaa k1;have f1:=Qay k1 1;have HQ6:Hid ((W5.setCell ⟨b,1,none⟩ (.int .i64 ((i:Int)+1))).heap[Q]?=some (Qaj op2 num str 0)):=Za (QbF HQ5.out _ _ (by show Q≠b;omega));have HB6:Hid (Below B w (W5.setCell ⟨b,1,none⟩ (.int .i64 ((i:Int)+1)))):=Za ((HG5.out.mono H0.out.size).setCell H0.out.base _);have hownQ:∀ tv nv,(W5.setCell ⟨b,1,none⟩ (.int .i64 ((i:Int)+1))).heap[b]?=some (Qeg tv (i+1:Nat) nv (-1))->nv.ownBlock≠some Q:=by
    intro tv2 nv2 hk2 e;obtain ⟨tv0,nv0,j1,j2,j3⟩:=H0.out.ex;have j4:=Qab j1 HG5.out;have j5:=heap_setCell_same _ _ 1 _ _ (.int .i64 ((i:Int)+1)) j4;rw [j5] at hk2;injection hk2 with hk2;injection hk2 with hk2 _ _;have:nv0=nv2:=by
     have:=congrArg (fun a:Array Value=>a.getD 2 undef) hk2;simpa using this
    subst this;have:=QhG j3 e;omega
   clear k1 k2 k3;go_upto_region 7 with fail;generalize W5.setCell ⟨b,1,none⟩ (.int .i64 ((i:Int)+1))=W6 at KEY HQ6 HB6 hownQ |-;clear c0 c1 c2 c3 f1 q0 q1 q2 q3;have HAD:=Za (Qoy m (-1) B b (i+1) op2 num 0 str W6 L o KEY.out (by have:=HOL.out;omega) (by have:=HOL.out;omega));unfold QbB at HAD;have hQ6:Q<W6.heap.size:=lt_of_block HQ6.out;obtain ⟨q0,q1,q2,q3⟩:=Qaa HQ6.out;go_wp2_with fail;((with_reducible refine HAD.out.mono ?_));rintro e w7 ⟨rfl,hp7,hb7,hfr⟩;have HP7:=Za hp7;have HB7:Hid (Below B w w7):=Za (HB6.out.trans hb7);have HQ7:=Za ((hfr Q hQ6 (by omega) hownQ).trans HQ6.out);clear hp7 hb7 hfr HAD q0 q1 q2 q3 hQ6 hownQ KEY HQ6 HB6 HQ5 HG5;obtain ⟨q0,q1,q2,q3⟩:=Qaa HQ7.out;by_cases h5:op2=5
   ·subst h5;have hop3:op=3:=by
     rcases HO2.out with ⟨_,e⟩|⟨e,e2⟩
     ·exact e
     ·exact absurd e.symm e2
    have hn0:num=0:=HFC.out.2.1 hop3;subst hn0;have HX2:Hid (X=if atT 5 (L.drop (i+1))=true then QeI sub str (L.drop (i+1)).tail else .no (L.drop (i+1))):=Za (by rw [HXB.out,if_pos rfl,List.tail_drop]);have HCH:=Za (Qr2 m B b L sub n HS2.out HGD.out hL1 str (i+1) o w7 HP7.out (by omega));rw [<- HX2.out] at HCH;clear HXB hop3;go_wp2_with fail;((with_reducible refine HCH.out.mono ?_));rintro e w8 ⟨rfl,hb8,hres⟩;have HB8:Hid (Below B w w8):=Za (HB7.out.trans hb8);have HRS:=Za hres;clear hb8 hres;go_wp2_with fail;go_end0;exact ⟨rfl,HB8.out,HRS.out⟩
   have e5:(op2==5)=false:=Zd h5;have hopo:op2=op:=by
    rcases HO2.out with ⟨e,_⟩|⟨e,_⟩
    ·exact absurd e h5
    ·exact e
   by_cases h33:op2=33
   ·obtain ⟨hn0,hs0,_⟩:=HFC.out.2.2 (by omega) (by omega) (by omega) (by omega) (by omega) (by omega);subst hn0 hs0;clear hopo;subst h33;have HXC:Hid (X=if atT 5 (L.drop (i+1))=true then QeL ⟨33,0,[],1⟩ (Qca sub [101] (L.drop (i+1))) else .ok (L.drop (i+1)) [⟨33,0,[],0⟩]):=Za (by rw [HXB.out,if_neg (by decide),if_pos rfl]);have HK:=Za (Qfs m (-1) B b (i+1) w7 L _ HP7.out (by omega));have HCH0:=Za (fun q=>QeX m B b L sub n HS2.out HGD.out hL1 [101] 1 Qvr (by simp) (by decide) 33 0 0 [] (i+1) o (w7.drewN q) (HP7.out.below (below_drewN Zb q)) (by omega));clear HXB h5;cases ht5:atT 5 (L.drop (i+1)) with
    | true =>
      have hz:(QeN (L.drop (i+1))==5)=true:=by rw [QgO 5 (by decide),ht5]
      have HX2:Hid (X=QeL ⟨33,0,[],([(101:UInt8)].length:Nat)⟩ (Qca sub [101] (L.drop (i+1)))):=Za (by rw [HXC.out,ht5,if_pos rfl]<;>rfl);generalize QeN (L.drop (i+1))=z at HK hz;clear HXC ht5;go_wp2_with fail;((with_reducible refine HK.out.mono ?_));rintro e w8 ⟨rfl,q,rfl⟩;have HCH:=Za (HCH0.out q);rw [<- HX2.out] at HCH;go_wp2_with fail;((with_reducible refine HCH.out.mono ?_));rintro e w8 ⟨rfl,hb8,hres⟩;have HB8:Hid (Below B w w8):=Za ((below_drewN HB7.out q).trans hb8);have HRS:=Za hres;clear hb8 hres;go_wp2_with fail;go_end0;exact ⟨rfl,HB8.out,HRS.out⟩
    | false =>
      have hz:(QeN (L.drop (i+1))==5)=false:=by rw [QgO 5 (by decide),ht5]
      have HX2:Hid (X = .ok (L.drop (i+1)) [⟨33,0,[],0⟩]):=Za (by rw [HXC.out,ht5,if_neg (by decide)]);generalize QeN (L.drop (i+1))=z at HK hz;clear HXC ht5 HCH0;go_wp2_with fail;((with_reducible refine HK.out.mono ?_));rintro e w8 ⟨rfl,q,rfl⟩;go_wp2_with fail;go_end0;rw [HX2.out];exact ⟨rfl,below_drewN HB7.out q,_,rfl,HP7.out.below (below_drewN Zb q)⟩
   have e33:(op2==33)=false:=Zd h33;by_cases h31:op2=31
   ·exact absurd (hopo.symm.trans h31) HK31.out
   have e31:(op2==31)=false:=Zd h31;by_cases hlf:op2=1\/op2=2\/op2=3\/op2=6\/op2=7\/op2=34\/op2=35
   ·have HX2:Hid (X = .ok (L.drop (i+1)) [⟨op2,num,str,0⟩]):=Za (by rw [HXB.out,if_neg h5,if_neg h33,if_neg h31,if_pos hlf]);clear HXB h5 h33 h31 hopo HO2 HFC HEM;rcases hlf with rfl|rfl|rfl|rfl|rfl|rfl|rfl
    all_goals
     go_wp2_with fail;go_end0;rw [HX2.out];exact ⟨rfl,HB7.out,_,rfl,HP7.out⟩
   ·obtain ⟨hn0,hs0,htab⟩:=HFC.out.2.2 (by have:=HH0.out;omega) (by omega) (by omega) (by omega) (by omega) (by omega);subst hn0 hs0;rw [<- hopo] at htab;have HX2:Hid (X=QeL ⟨op2,0,[],((QaE op2).2.length:Nat)⟩ (Qca sub (QaE op2).2 (L.drop (i+1)))):=Za (by rw [HXB.out,if_neg h5,if_neg h33,if_neg h31,if_neg hlf]);have g1:(op2==1)=false:=Zd (by omega);have g2:(op2==2)=false:=Zd (by omega);have g3:(op2==3)=false:=Zd (by omega);have g6:(op2==6)=false:=Zd (by omega);have g7:(op2==7)=false:=Zd (by omega);have g34:(op2==34)=false:=Zd (by omega);have g35:(op2==35)=false:=Zd (by omega);obtain ⟨a,hka⟩:=Qmp op2;have hne:(QaE op2).2≠[]:=by
     intro e;obtain ⟨z,rfl⟩:=QgQ htab;have:=QtF z e htab;omega
    have hbk:∀ k∈(QaE op2).2,Qhv k=QaQ k:=by
     obtain ⟨z,rfl⟩:=QgQ htab;exact Qr5 z
    have HRO:=Za (Qmw op2 w7);rw [Qk4 htab] at HRO;obtain ⟨⟨fw,fk⟩,hfp⟩:∃ z,QaE op2=z:=⟨_,rfl⟩;rw [hfp] at HRO HX2 hka hne hbk;simp only [QgP,Option.isSome_some] at HRO HX2 hka hne hbk;have HCH0:=Za (fun (x:World) (hx:Below w7.heap.size w7 x)=>QeX m B b L sub n HS2.out HGD.out hL1 fk a hka hne hbk op2 0 0 [] (i+1) o x (HP7.out.below hx) (by omega));clear HXB h5 h33 h31 hopo HO2 HFC HEM htab hfp hka hne hbk hlf HH0;go_wp2_with fail;((with_reducible refine HRO.out.mono ?_));rintro e w8 ⟨rfl,hb8⟩;have hal:Below w7.heap.size w7 (w8.alloc (QbN op2 fw fk)):=Qah hb8 Zc (Zb.alloc Zc _);have hcell:=heap_alloc_new w8 (QbN op2 fw fk);have HCH:=Za (HCH0.out _ hal);have HB9:Hid (Below B w (w8.alloc (QbN op2 fw fk))):=Za (HB7.out.trans (hal.mono HP7.out.size));rw [<- HX2.out] at HCH;clear hb8 hal HRO HCH0;go_upto_region 10 with fail;generalize w8.alloc (QbN op2 fw fk)=W9 at hcell HCH HB9 |-;obtain ⟨r0,r1,r2⟩:=Qa4 hcell;go_wp2_with fail;((with_reducible refine HCH.out.mono ?_));rintro e w10 ⟨rfl,hb10,hres⟩;have HB10:Hid (Below B w w10):=Za (HB9.out.trans hb10);have HRS:=Za hres;clear hb10 hres;go_wp2_with fail;go_end0;exact ⟨rfl,HB10.out,HRS.out⟩
theorem Qoz (m:Int) (B b:Nat) (L:List TokI) (hL:L.length<=100000):∀ f,Qr1 m B b L (QfW f) f
 | 0,k,i,o,w,h,hn=>by
   have hi:L.drop i=[]:=List.drop_eq_nil_of_le (by omega);have:=QmB m B b L (fun _ r=>.no r) 0 k i (fun h=>by omega) (fun k r=>⟨0,rfl⟩) hL o w h (by omega);rw [hi] at this |-;exact this
 | f+1,k,i,o,w,h,hn=>by
   rw [<- Qp0];exact QmB m B b L (QfW f) f k i (fun _=>Qoz m B b L hL f) (Qg3 f) hL o w h hn
end
section
open Go.RowKit
attribute [local go_sem] ByteArray.mk_append_mk Qac Qad Qae
def QoA (t:Tok):Prop:=t.str.length<=65536/\(t.kind=2->t.str≠[])
theorem QoB (s:List UInt8) (hs:s.length<=65536):∀ (f p:Nat) (acc:List Tok),p<=s.length->(∀ t∈acc,QoA t)->∀ t∈(QdN s f p acc).1,QoA t
 | 0,p,acc,hp,h=>by rw [QdN];exact h
 | f+1,p,acc,hp,h=>by
   obtain ⟨q,hq1,hq2,e1,e2⟩:=QfT s p hp;unfold QdN;rw [e2,e1];split
   ·intro t ht;cases ht
   ·split
    ·exact h
    ·split
     ·intro t ht;cases ht
     ·next k v t n hi =>
      have hn:1<=n/\n<=(s.drop q).length:=QgD hi;obtain ⟨g1,g2⟩:=QrQ hi;rw [List.length_drop] at hn g1;refine QoB s hs f (q+n) _ (by omega) (fun x hx=>?_);rcases List.mem_append.1 hx with hx|hx
      ·exact h x hx
      ·simp only [List.mem_cons,List.not_mem_nil,or_false] at hx;subst hx;exact ⟨by show t.length<=65536;omega,g2⟩
theorem QtG (s:List UInt8):∀ t∈(QeF s).1,QoA t:=by
 unfold QeF;split
 ·intro t ht;cases ht
 ·exact QoB s (by omega) _ 0 [] (by omega) (fun t ht=>by cases ht)
theorem Qr7 {l:List Tok} (h:∀ t∈l,QoA t):TGood (l.map Tok.toI):=by
 intro t ht;obtain ⟨x,hx,rfl⟩:=List.mem_map.1 ht;exact ⟨(h x hx).1,fun hk=>(h x hx).2 (by have:(x.kind:Int)=2:=hk;omega)⟩
theorem Toks.tokB {w:World} {B:Nat} {v:Value} {l:List Tok} (h:Toks w B v l):TokB w w.heap.size v (l.map Tok.toI):=by
 obtain ⟨a,c,rfl⟩:=h.form;have hcap:l.length<=c:=by
  rcases h.2 with ⟨hv,h0⟩|⟨g,cap,cur,hv,hb,hg,hn,_⟩
  ·injection hv with _ _ e;omega
  ·injection hv with _ _ e;omega
 refine ⟨a,c,by rw [List.length_map],by rw [List.length_map];exact hcap,fun hne=>?_⟩;have hpos:0<l.length:=by
  cases l with
  | nil=>exact absurd rfl hne
  | cons x y=>simp
 obtain ⟨b,ha,hB,q0,_⟩:=h.cells 0 hpos;refine ⟨b,0,ha,World.block_lt_of_cell? w _ q0,fun i hi=>?_⟩;rw [List.length_map] at hi;obtain ⟨b2,ha2,_,k0,k1,k2,k3⟩:=h.cells i hi;rw [ha] at ha2;injection ha2 with ha2;injection ha2 with ha2;subst ha2;rw [Nat.zero_add,List.getElem_map];exact ⟨k0,k1,k2,k3⟩
def Qfw (F:Nat):Nat->List Nd->List TokI->PR
 | 0,ns,r=>.ok r ns
 | f+1,ns,r=>if r=[] then .ok [] ns else match QfW F 68 r with
   | .no x=>.no x
   | .ok r1 n1=>Qfw F f (ns++n1) r1
def QtH (E:Int):PR->List Nd×Int×Int
 | .no x=>([],QwW E x,2)
 | .ok _ ns=>if QaS ns=true then (ns,0,0) else ([],0,11)
def Qp1 (E:Int) (l:List TokI):List Nd×Int×Int:=QtH E (Qfw l.length l.length [] l)
def Qlm (s:List UInt8):List Nd×Int×Int :=
 if (QeF s).2.2≠0 then ([],(QeF s).2.1,(QeF s).2.2) else Qp1 s.length ((QeF s).1.map Tok.toI)
def NdsOk (l:List Nd):Prop:=∀ t∈l,t.str.length<=4000000000/\0<=t.num
theorem NdsOk.app {a b:List Nd} (h:NdsOk a) (k:NdsOk b):NdsOk (a++b):=fun t ht=>by
 rcases List.mem_append.1 ht with ht|ht
 ·exact h t ht
 ·exact k t ht
theorem NdsOk.cons {a:List Nd} {n:Nd} (hn:n.str.length<=4000000000/\0<=n.num) (h:NdsOk a):NdsOk (n::a):=fun t ht=>by
 rcases List.mem_cons.1 ht with rfl|ht
 ·exact hn
 ·exact h t ht
theorem NdsOk.tail {a:List Nd} (h:NdsOk a):NdsOk a.tail:=fun t ht=>h t (List.mem_of_mem_tail ht)
theorem NdsOk.nil:NdsOk []:=fun t ht=>by cases ht
def NG (x:PR):Prop:=match x with
 | .no _=>True
 | .ok r ns=>NdsOk r/\NdsOk ns
section
variable {sub:UInt8->List TokI->PR} (hs:∀ k r,NdsOk r->NG (sub k r))
include hs
end
def Qdo (w:World) (x:List Nd×Int×Int) (e:Ending) (w':World):Prop :=
 ∃ v,e = .returned (.tuple #[v,.int .i64 x.2.1,.int .i64 x.2.2])/\NodesI w' w.heap.size v x.1/\Below w.heap.size w w'
end
section
open Go.RowKit
attribute [local go_sem] ByteArray.mk_append_mk Qac Qad Qae
end
section
open Go.RowKit
attribute [local go_sem] ByteArray.mk_append_mk Qac Qad Qae
def NdsS (l:List Nd):Prop:=∀ t∈l,t.str.length<=65536/\0<=t.num
theorem NdsS.app {a b:List Nd} (h:NdsS a) (k:NdsS b):NdsS (a++b):=fun t ht=>by
 rcases List.mem_append.1 ht with ht|ht
 ·exact h t ht
 ·exact k t ht
theorem NdsS.cons {a:List Nd} {n:Nd} (hn:n.str.length<=65536/\0<=n.num) (h:NdsS a):NdsS (n::a):=fun t ht=>by
 rcases List.mem_cons.1 ht with rfl|ht
 ·exact hn
 ·exact h t ht
theorem NdsS.tail {a:List Nd} (h:NdsS a):NdsS a.tail:=fun t ht=>h t (List.mem_of_mem_tail ht)
theorem NdsS.nil:NdsS []:=fun t ht=>by cases ht
def NGS (x:PR):Prop:=match x with
 | .no _=>True
 | .ok r ns=>NdsS r/\NdsS ns
section
variable {sub:UInt8->List TokI->PR} (hs:∀ k r,NdsS r->NGS (sub k r))
include hs
theorem QmC (text:List UInt8) (ht:text.length<=65536):∀ (f m:Nat) (ns:List Nd) (r:List TokI),NdsS ns->NdsS r->NGS (Qgr sub text f m ns r)
 | 0,m,ns,r,h,hr=>trivial
 | f+1,m,ns,r,h,hr=>by
   rw [Qgr];have hk:=hs 101 r hr;cases hx:sub 101 r with
   | no x=>trivial
   | ok r1 n1 =>
     rw [hx] at hk;simp only [];split
     ·split
      ·exact ⟨hk.1.tail,.cons ⟨ht,by show (0:Int)<=0;omega⟩ (h.app hk.2)⟩
      ·trivial
     ·exact QmC text ht f (m+1) _ _ (h.app hk.2) hk.1.tail
theorem Qr8 (k:UInt8) (text:List UInt8) (ht:text.length<=65536) (r:List TokI) (hr:NdsS r):NGS (Ql6 sub k text r):=by
 unfold Ql6;split
 ·trivial
 split
 ·trivial
 split
 ·unfold QeI;split
  ·exact ⟨hr.tail.tail.tail,.cons ⟨ht,by show (0:Int)<=0;omega⟩ .nil⟩
  ·exact QmC hs text ht 7 0 [] _ .nil hr.tail.tail
 split
 ·trivial
 ·exact ⟨hr.tail,.cons ⟨ht,by show (0:Int)<=0;omega⟩ .nil⟩
theorem Qln (k:UInt8):∀ (f m:Nat) (ns:List Nd) (r:List TokI),NdsS ns->NdsS r->NGS (Qb6 sub k f m ns r)
 | 0,m,ns,r,h,hr=>trivial
 | f+1,m,ns,r,h,hr=>by
   rw [Qb6];split
   ·exact ⟨hr.tail,.cons ⟨by simp,by show (0:Int)<=0;omega⟩ h⟩
   split
   ·trivial
   have hr2:NdsS (if Qgq k=true/\0<m then r.tail else r):=by split;exact hr.tail;exact hr
   have hk:=hs k _ hr2;cases hx:sub k (if Qgq k=true/\0<m then r.tail else r) with
   | no x=>trivial
   | ok r1 n1=>rw [hx] at hk;exact Qln k f (m+1) _ _ (h.app hk.2) hk.1
theorem Qlo (k:UInt8) (r:List TokI) (hr:NdsS r):NGS (QbC sub k r):=by
 unfold QbC;split
 ·exact Qln hs k _ 0 [] _ .nil hr.tail
 ·trivial
theorem QmD:∀ (ks:List UInt8) (first:Bool) (ns:List Nd) (r:List TokI),NdsS ns->NdsS r->NGS (QcZ sub ks first ns r)
 | [],first,ns,r,h,hr=>by rw [QcZ];split;exact ⟨hr.tail,h⟩;trivial
 | k::ks,first,ns,r,h,hr=>by
   rw [QcZ];split
   ·split;exact ⟨hr.tail,h⟩;trivial
   split
   ·trivial
   have hr2:NdsS (if first=false then r.tail else r):=by split;exact hr.tail;exact hr
   have hk:=hs k _ hr2;cases hx:sub k (if first=false then r.tail else r) with
   | no x=>trivial
   | ok r1 n1=>rw [hx] at hk;exact QmD ks false _ _ (h.app hk.2) hk.1
theorem QmE:∀ (ks:List UInt8) (ns:List Nd) (r:List TokI),NdsS ns->NdsS r->NGS (Qc0 sub ks ns r)
 | [],ns,r,h,hr=>by rw [Qc0];exact ⟨hr,h⟩
 | k::ks,ns,r,h,hr=>by
   rw [Qc0];have hk:=Qlo hs k r hr;cases hx:QbC sub k r with
   | no x=>trivial
   | ok r1 n1=>rw [hx] at hk;exact QmE ks _ _ (h.app hk.2) hk.1
theorem QoC (kinds:List UInt8) (r:List TokI) (hr:NdsS r):NGS (Qca sub kinds r):=by
 unfold Qca;split
 ·exact ⟨hr,.nil⟩
 split
 ·trivial
 have ha:=QmD hs kinds true [] r.tail .nil hr.tail;cases hx:QcZ sub kinds true [] r.tail with
 | no x=>trivial
 | ok r1 n1=>rw [hx] at ha;exact QmE hs _ _ _ ha.2 ha.1
theorem Qr9 (k:UInt8) (w:List UInt8) (r:List TokI) (hr:NdsS r):NGS (Ql7 sub k w r):=by
 unfold Ql7;cases hv:Qkn w with
 | some x =>
   obtain ⟨op,n⟩:=x;simp only [];split
   ·exact ⟨hr.tail,.cons ⟨by simp,by show (0:Int)<=(n:Int);omega⟩ .nil⟩
   ·trivial
 | none =>
   simp only [];split
   ·trivial
   split
   ·split
    ·have:=QoC hs [101] r.tail hr.tail;cases hx:Qca sub [101] r.tail with
     | no x=>trivial
     | ok x ns=>rw [hx] at this;exact ⟨this.1,.cons ⟨by simp,by show (0:Int)<=0;omega⟩ this.2⟩
    ·exact ⟨hr.tail,.cons ⟨by simp,by show (0:Int)<=0;omega⟩ .nil⟩
   ·have:=QoC hs (QaE (opW w)).2 r.tail hr.tail;cases hx:Qca sub (QaE (opW w)).2 r.tail with
    | no x=>trivial
    | ok x ns =>
      rw [hx] at this;simp only [];split
      ·have hb:=Qlo hs 83 x.tail this.1.tail;cases hy:QbC sub 83 x.tail with
       | no z=>trivial
       | ok r2 n2=>rw [hy] at hb;exact ⟨hb.1,.cons ⟨by simp,by show (0:Int)<=0;omega⟩ (this.2.app hb.2)⟩
      ·exact ⟨this.1,.cons ⟨by simp,by show (0:Int)<=0;omega⟩ this.2⟩
end
theorem Qlp:∀ (f:Nat) (k:UInt8) (r:List TokI),NdsS r->NGS (QfW f k r)
 | 0,k,r,hr=>trivial
 | f+1,k,r,hr=>by
   cases r with
   | nil=>trivial
   | cons t q =>
     have ht:=hr t (by simp);unfold QfW;simp only [];split
     ·exact Qr8 (Qlp f) _ _ ht.1 _ hr
     split
     ·exact Qr9 (Qlp f) _ _ _ hr
     split
     ·exact ⟨hr.tail,.cons ⟨by simp,ht.2⟩ .nil⟩
     split
     ·exact ⟨hr.tail,.cons ⟨ht.1,by show (0:Int)<=0;omega⟩ .nil⟩
     ·trivial
theorem QmF (F:Nat):∀ (f:Nat) (ns:List Nd) (r:List TokI),NdsS ns->NdsS r->NGS (Qfw F f ns r)
 | 0,ns,r,h,hr=>by rw [Qfw];exact ⟨hr,h⟩
 | f+1,ns,r,h,hr=>by
   rw [Qfw];split
   ·exact ⟨.nil,h⟩
   have hk:=Qlp F 68 r hr;cases hx:QfW F 68 r with
   | no x=>trivial
   | ok r1 n1=>rw [hx] at hk;exact QmF F f _ _ (h.app hk.2) hk.1
theorem QtI (l:List Tok) (h:∀ t∈l,QoA t):NdsS (l.map Tok.toI):=by
 intro t ht;obtain ⟨x,hx,rfl⟩:=List.mem_map.1 ht;refine ⟨(h x hx).1,?_⟩;show (0:Int)<=(x.num:Int);omega
set_option maxRecDepth 100000 in
theorem Qp2 (s:List UInt8) (m:Int) (w:World) (hm:SynG m w) (hs:s.length<=4611686018427380000) :
  Calls Tryz.prog 52 #[.string ⟨s.toArray⟩] w (Qdo w (Qlm s)):=by
 have HSC:=Za (Qq9 s w hs);have HG:=Za hm;obtain ⟨Z,hZ⟩:∃ Z,Hid (Qlm s=Z):=⟨_,Za rfl⟩;have htok:=QtG s;have hlen:=Qra s;obtain ⟨x,hx⟩:∃ x,QeF s=x:=⟨_,rfl⟩;rw [hx] at HSC htok hlen;have HZ0:Hid (Z=if x.2.2≠0 then ([],(x.2.1:Int),(x.2.2:Int)) else Qp1 s.length (x.1.map Tok.toI)):=Za (by rw [<- hZ.out];unfold Qlm;rw [hx]);obtain ⟨tl,pos,er⟩:=x;simp only at htok hlen HZ0;unfold QnH at HSC;simp only at HSC;have HTOK:=Za htok;rw [hZ.out];clear hx hm htok hZ;go_enter Tryz.func52,Tryz.ntmps52;go_wp2_with fail;((with_reducible refine HSC.out.mono ?_));rintro e w1 ⟨v,rfl,hv,hb1⟩;have HG1:=Za (HG.out.below hb1 HG.out.low);have HB1:=Za hb1;have HV:=Za hv;obtain ⟨va,vc,rfl⟩:=hv.form;clear hb1 hv HSC HG;by_cases he:er=0
 ·subst he;have HZ1:Hid (Z=Qp1 s.length (tl.map Tok.toI)):=Za (by rw [HZ0.out,if_neg (fun h=>h rfl)]);obtain ⟨T,hT⟩:∃ T,tl.map Tok.toI=T:=⟨_,rfl⟩;obtain ⟨Y,hY⟩:∃ Y,Hid (Qfw T.length T.length [] T=Y):=⟨_,Za rfl⟩;have HZ2:Hid (Z=QtH s.length Y):=Za (by rw [HZ1.out,hT,<- hY.out]<;>rfl);have HNG:Hid (NGS Y):=Za (by rw [<- hY.out];exact QmF _ _ _ _ .nil (by rw [<- hT];exact QtI _ HTOK.out));have htl:tl.length=T.length:=by rw [<- hT,List.length_map]
  have HTB:Hid (TokB w1 w1.heap.size (.slice va tl.length vc) T):=Za (by rw [<- hT];exact HV.out.tokB);have HTG:Hid (TGood T):=Za (by rw [<- hT];exact Qr7 HTOK.out);obtain ⟨b,hb⟩:∃ b,w1.heap.size=b:=⟨_,rfl⟩;have HBE:=Za hb;rw [htl] at HTB hlen |-;have hal:Below b w1 (w1.alloc (Qeg (.slice va T.length vc) 0 (.slice none 0 0) (-1))):=Zb.alloc (by omega) _;have hsz0:b<=(w1.alloc (Qeg (.slice va T.length vc) 0 (.slice none 0 0) (-1))).heap.size:=by rw [<- hb];exact hal.size
  have HP0:Hid (RSt m b b (w1.alloc (Qeg (.slice va T.length vc) 0 (.slice none 0 0) (-1))) T 0 (-1) []):=Za (by
   have h1:=heap_alloc_new w1 (Qeg (.slice va T.length vc) 0 (.slice none 0 0) (-1));rw [hb] at h1;have h2:=HTB.out;rw [hb] at h2;exact ⟨⟨_,_,h1,h2.below hal,NodesI.nil _ _⟩,Nat.le_refl _,hsz0,HG1.out.below hal (by rw [<- hb];exact HG1.out.low),by rw [<- hb];exact HG1.out.low,HTG.out,Nat.zero_le _,by omega,by omega,by simp⟩)
  have HL0:=Za hal;have HV1:Hid (∀ (i:Nat) (t:TokI) (q:List TokI),T.drop i=t::q->∃ g off,va=some ⟨g,off,none⟩/\g<b/\i<T.length/\TAt w1 g (off+i * 4) t):=Za (fun i t q hd=>by
   obtain ⟨g,off,cap,hva,h1,h2,h3⟩:=HTB.out.drop_cells hd;injection hva with hva _ _;exact ⟨g,off,hva,by rw [<- hb];exact h1,h2,h3⟩)
  have hT6:T.length<=65536:=by omega
  clear hT HZ0 HZ1 HTOK HV hal hsz0 HG1 HTB HTG hb htl hlen;go_wp2_with fail;rw [HBE.out];generalize w1.alloc (Qeg (.slice va T.length vc) 0 (.slice none 0 0) (-1))=W0 at HP0 HL0 |-;have HSUBS:=Za (Qoz m b b T (by omega) T.length);have HREL:Hid (∃ z,W0=z/\((∃ (f:Nat) (ns:List Nd) (i:Nat),(T.drop i).length<=f/\Hid (Qfw T.length f ns (T.drop i)=Y)/\Hid (RSt m b b z T i (-1) ns)/\Hid (Below b w1 z))\/(∃ (i jf:Nat) (o':List Nd),Hid (Y = .no (T.drop jf))/\Hid (RSt m b b z T i jf o')/\Hid (Below b w1 z)))):=Za ⟨_,rfl,.inl ⟨T.length,[],0,by simp,hY,HP0,HL0⟩⟩;clear HP0 HL0 hY;go_loopw [39] (fun _ wr=>Hid ((∃ (f:Nat) (ns:List Nd) (i:Nat),(T.drop i).length<=f/\Hid (Qfw T.length f ns (T.drop i)=Y)/\Hid (RSt m b b wr T i (-1) ns)/\Hid (Below b w1 wr))\/(∃ (i jf:Nat) (o':List Nd),Hid (Y = .no (T.drop jf))/\Hid (RSt m b b wr T i jf o')/\Hid (Below b w1 wr)))) (fun _ wr=>QhE wr b)
  case atStart =>
   obtain ⟨z,rfl,h⟩:=HREL.out;exact Za h
  case round =>
   clear HREL;rcases hrel.out with ⟨f,ns,i,hqf,HX,HP,HB⟩|⟨i,jf,o',HXF,HP,HB⟩
   ·clear hrel;obtain ⟨w3,rfl⟩:∃ y:World,y=wr:=⟨_,rfl⟩;have HLF:Hid (QhE w3 b=1+(T.length-i)):=Za (by rw [HP.out.left,if_neg (by omega)]);have hix:=HP.out.ix;have hol:=HP.out.ol;obtain ⟨tv,nv,k1,k2,k3⟩:=HP.out.ex;obtain ⟨ta,tcap,rfl,tl2,tc⟩:=k2;obtain ⟨na,nc,rfl⟩:=k3.form;obtain ⟨c0,c1,c2,c3⟩:=Qaa k1;have HN:=Za k3;clear k1 k3 tc;by_cases hlt:i<T.length
    ·have hlt':(i:Int)<(T.length:Int):=by omega
     obtain ⟨f,rfl⟩:∃ g,f=g+1:=⟨f-1,by rw [List.length_drop] at hqf;omega⟩;have hne:T.drop i≠[]:=by intro e;have:=congrArg List.length e;rw [List.length_drop] at this;simp at this;omega
     have HX2:Hid (Y=match QfW T.length 68 (T.drop i) with|.no x=>.no x|.ok r1 n1=>Qfw T.length f (ns++n1) r1):=Za (by rw [<- HX.out,Qfw,if_neg hne]<;>rfl);have hgood:=Qg3 T.length 68 (T.drop i);clear HX;go_upto_region 5 with fail;go_quiet (fail);go_wp2_with fail;have HP4:Hid (RSt m b b (w3.drewN nq) T i (-1) ns):=Za (HP.out.below (below_drewN Zb _));have HB4:Hid (Below b w1 (w3.drewN nq)):=Za (below_drewN HB.out _);clear c0 c1 c2 c3;generalize w3.drewN nq=W4 at HP4 HB4 |-;have HSUB:Hid (Calls Tryz.prog 98 #[.pointer (some ⟨b,0,none⟩),.int .u8 68] W4 (QhF m b b T W4 ns (QfW T.length 68 (T.drop i)))):=Za (HSUBS.out 68 i ns W4 HP4.out (by omega));cases hx:QfW T.length 68 (T.drop i) with
     | no x =>
       rw [hx] at HSUB HX2;have HX3:Hid (Y = .no x):=HX2;clear hx hgood;((with_reducible refine HSUB.out.mono ?_));rintro e w6 ⟨rfl,hb6,i6,j6,o6,rfl,hp6⟩;have HB6:Hid (Below b w1 w6):=Za (HB4.out.trans hb6);have HP6:=Za hp6;clear hb6 hp6;go_wp2_with fail;go_roundw
       case rel=>refine Za ?_;exact .inr ⟨i6,j6,o6,HX3,HP6,HB6⟩
       case measure=>rw [HLF.out,HP6.out.left,if_pos (by omega)];omega
     | ok x n1 =>
       rw [hx] at HSUB HX2 hgood;have HX3:Hid (Qfw T.length f (ns++n1) x=Y):=Za HX2.out.symm;obtain ⟨d,hd1,hd2,hd3,hd4⟩:=hgood;have HGOOD:=Za hd3;clear hx hd3;((with_reducible refine HSUB.out.mono ?_));rintro e w6 ⟨rfl,hb6,i6,hi6,hp6⟩;have hlt6:i<i6:=Qcv hp6.ix hi6 HGOOD.out hd1 hd2;have hix6:=hp6.ix;subst hi6;have HB6:Hid (Below b w1 w6):=Za (HB4.out.trans hb6);have HP6:=Za hp6;have hf6:(T.drop i6).length<=f:=by rw [List.length_drop] at hqf |-;omega
       clear hb6 hp6;go_wp2_with fail;go_roundw
       case rel=>refine Za ?_;exact .inl ⟨f,ns++n1,i6,hf6,HX3,HP6,HB6⟩
       case measure=>rw [HLF.out,HP6.out.left,if_neg (by omega)];omega
    ·have hlt':¬ (i:Int)<(T.length:Int):=by omega
     have HX2:Hid (Y = .ok [] ns):=Za (by
      rw [<- HX.out,List.drop_eq_nil_of_le (by omega)];cases f with
      | zero=>rw [Qfw]
      | succ f=>rw [Qfw,if_pos rfl])
     have HZ3:Hid (Z=if QaS ns=true then (ns,0,0) else ([],0,11)):=Za (by rw [HZ2.out,HX2.out]<;>rfl);have hnd:NdsS ns:=by
      have h:=HNG.out;rw [HX2.out] at h;exact h.2
     obtain ⟨vb,hvb⟩:∃ z,QaS ns=z:=⟨_,rfl⟩;have HVA:=Za (fun (x:World) (hx:Below w3.heap.size w3 x)=>Qfu ns (fun t ht=>Nat.le_trans (hnd t ht).1 (by decide)) vb (Za hvb) (.slice na ns.length nc) x ((HN.out.below hx).sl (fun t ht=>⟨Nat.le_trans (hnd t ht).1 (by omega),(hnd t ht).2⟩)) (by omega));rw [hvb] at HZ3;clear HX hvb HX2 HZ2 HNG hlt hnd HLF;go_upto_region 5 with fail;go_quiet (fail);go_wp2_with fail;((with_reducible refine (HVA.out _ (below_drewN Zb _)).mono ?_));rintro e w4 ⟨rfl,hb4⟩;have hb34:Below w3.heap.size w3 w4:=Qah (below_drewN Zb _) Zc hb4;have HBW:Hid (Below w.heap.size w w4):=Za ((HB1.out.trans (HB.out.mono (by rw [<- HBE.out];exact HB1.out.size))).trans (hb34.mono (by have:=HP.out.size;have:=HB1.out.size;have:=HBE.out;omega)));have HN4:=Za (HN.out.below hb34);have e2:w4.cell? ⟨b,2,none⟩=some (.slice na ns.length nc):=(hb34.cell (p:=⟨b,2,none⟩) (World.block_lt_of_cell? w3 ⟨b,2,none⟩ c2)).trans c2;clear hb4 hb34 c0 c1 c2 c3;cases vb with
     | false =>
       have HZ4:Hid (Z=([],0,11)):=Za (by rw [HZ3.out]<;>rfl);go_wp2_with fail;go_ret3;unfold Qdo
       rw [HZ4.out];exact ⟨_,rfl,NodesI.nil _ _,HBW.out⟩
     | true =>
       have HZ4:Hid (Z=(ns,0,0)):=Za (by rw [HZ3.out]<;>rfl);go_wp2_with fail;go_ret3;unfold Qdo
       rw [HZ4.out];exact ⟨_,rfl,HN4.out.base (by rw [<- HBE.out];exact HB1.out.size),HBW.out⟩
   ·clear hrel;obtain ⟨w3,rfl⟩:∃ y:World,y=wr:=⟨_,rfl⟩;have HZ3:Hid (Z=([],QwW s.length (T.drop jf),2)):=Za (by rw [HZ2.out,HXF.out]<;>rfl);obtain ⟨⟨tv,nv,k1,k2,k3⟩,_⟩:=HP.out;obtain ⟨c0,c1,c2,c3⟩:=Qaa k1;obtain ⟨Fv,hFv⟩:∃ Fv:Int,(jf:Int)=Fv:=⟨_,rfl⟩;have hF3:decide (Fv<0)=false:=decide_eq_false (by omega);have hF4:Fv>=0:=by omega
    rw [hFv] at c3;have HFV:=Za hFv;have HBW:Hid (Below w.heap.size w w3):=Za (HB1.out.trans (HB.out.mono (by rw [<- HBE.out];exact HB1.out.size)));clear k1 k2 k3 hFv c0 c1 c2;go_upto_region 5 with fail;have k3:∀ x,Grows (w3) x->x.cell? ⟨b,3,none⟩=some _:=fun x hx=>(hx.cell (p:=⟨b,3,none⟩) (World.block_lt_of_cell? _ ⟨b,3,none⟩ c3)).trans c3;refine QaI (Grows (w3)) 17 [.reads [0,1,2,3,4,5,6,7,8,9,10,11,12,13,14,15,16]] (by kernel_rfl) (by kernel_rfl) (by kernel_rfl) (by kernel_rfl) (by kernel_rfl) (fun _ _ d _ _ h=>by cases d<;>exact h) (Grows.self _) ?_;refine Qas ?_;simp only [Qaf,pQ1,pQ2,pQ3,pQ4,pQ5,pQ6]
    repeat (go_big_quiet_step ((intro hb;rw [k3 _ hb];exact ⟨rfl,rfl⟩)))
    (try simp only [hF3])
    repeat (go_big_quiet_step (fail))
    refine wpQuiet_nil ?_;clear k3;refine Qbb ?_;have d3b:w3.drew.cell? ⟨b,3,none⟩=some (.int .i64 Fv):=c3;have d3:(w3.drewN 1).cell? ⟨b,3,none⟩=some (.int .i64 Fv):=c3;have HBX:Hid (Below w.heap.size w (w3.drewN 1)):=Za (below_drewN HBW.out _);have HBY:Hid (Below b w1 (w3.drewN 1)):=Za (below_drewN HB.out _);clear c3 HBW HB HP;cases hd:T.drop jf with
    | nil =>
      have hge:¬ Fv<(T.length:Int):=by
       have:=congrArg List.length hd;rw [List.length_drop] at this;simp only [List.length_nil] at this;have:=HFV.out;omega
      have HZ4:Hid (Z=([],(s.length:Int),2)):=Za (by rw [HZ3.out,hd]<;>rfl);clear hd;go_wp2_with fail;go_ret3;unfold Qdo
      rw [HZ4.out];exact ⟨_,rfl,NodesI.nil _ _,HBX.out⟩
    | cons t q =>
      obtain ⟨g,off,rfl,hgb,hjl,t0,t1,t2,t3⟩:=HV1.out jf t q hd;have hge:Fv<(T.length:Int):=by have:=HFV.out;omega
      have HZ4:Hid (Z=([],t.pos,2)):=Za (by rw [HZ3.out,hd]<;>rfl);have HT3:Hid ((w3.drewN 1).cell? ⟨g,off+jf * 4+3,none⟩=some (.int .i64 t.pos)):=Za ((HBY.out.cell (p:=⟨g,off+jf * 4+3,none⟩) hgb).trans t3);clear hd t0 t1 t2 t3;go_upto_region 8 with fail;have e0:Fv=(jf:Int):=HFV.out.symm;clear HFV;subst e0;have k3:∀ x,Grows (w3.drewN 1) x->x.cell? ⟨b,3,none⟩=some _:=fun x hx=>(hx.cell (p:=⟨b,3,none⟩) (World.block_lt_of_cell? _ ⟨b,3,none⟩ d3)).trans d3;have ht3:=HT3.out;have q3:∀ x,Grows (w3.drewN 1) x->x.cell? ⟨g,off+jf * 4+3,none⟩=some _:=fun x hx=>(hx.cell (p:=⟨g,off+jf * 4+3,none⟩) (World.block_lt_of_cell? _ ⟨g,off+jf * 4+3,none⟩ ht3)).trans ht3;refine QaI (Grows (w3.drewN 1)) 9 [.reads [0,1,2,3,4,5,6,7,8],.act 9,.act 10] (by kernel_rfl) (by kernel_rfl) (by kernel_rfl) (by kernel_rfl) (by kernel_rfl) (fun _ _ d _ _ h=>by cases d<;>exact h) (Grows.self _) ?_;refine Qas ?_;simp only [Qaf,pQ1,pQ2,pQ3,pQ4,pQ5,pQ6]
      repeat (go_big_quiet_step (first|(intro hb;rw [k3 _ hb];exact ⟨rfl,rfl⟩)|(intro hb;rw [q3 _ hb];exact ⟨rfl,rfl⟩)))
      refine wpQuiet_nil ?_;clear k3 q3;refine Qai rfl ?_;simp only [Qaf,pQ1,pQ2,pQ3,pQ4,pQ5,pQ6];go_wp2_with fail;refine ⟨fun h=>absurd h (by decide),?_⟩;refine Qai rfl ?_;simp only [Qaf,pQ1,pQ2,pQ3,pQ4,pQ5,pQ6];go_wp2_with fail;refine ⟨fun h=>absurd h (by decide),Qbb ?_⟩;go_wp2_with fail;go_ret3;unfold Qdo
      rw [HZ4.out];exact ⟨_,rfl,NodesI.nil _ _,below_drewN HBX.out 1⟩
 ·have f1:((er:Int) != 0)=true:=by rw [bne_iff_ne];omega
  have HZ1:Hid (Z=([],(pos:Int),(er:Int))):=Za (by rw [HZ0.out,if_pos he]);clear he HZ0;go_wp2_with fail;go_ret3;unfold Qdo
  rw [HZ1.out];exact ⟨_,rfl,NodesI.nil _ _,HB1.out⟩
theorem Qsa (s:List UInt8) (ns:List Nd) (pos er m:Int) (H:Hid (Qlm s=(ns,pos,er))) (w:World) (hm:SynG m w) (hs:s.length<=4611686018427380000) :
  Calls Tryz.prog 52 #[.string ⟨s.toArray⟩] w fun e w'=>∃ v,e = .returned (.tuple #[v,.int .i64 pos,.int .i64 er])/\NodesI w' w.heap.size v ns/\Below w.heap.size w w':=by
 have:=Qp2 s m w hm hs;unfold Qdo at this;rw [H.out] at this;exact this
end
section
open Go.RowKit
attribute [local go_sem] ByteArray.mk_append_mk Qac Qad Qae
theorem Qvt (a b d a' b' d':Int) (s s':List UInt8) (w:World):(Op.equalIn 10000 46 (.agg #[.int .i64 a,.int .u64 b,.string ⟨s.toArray⟩,.int .i64 d]) (.agg #[.int .i64 a',.int .u64 b',.string ⟨s'.toArray⟩,.int .i64 d'])).run Tryz.prog w = .ok (a==a'&&b==b'&&s==s'&&d==d') w:=by
 have hS:Tryz.prog.underlying 46=some (.struct (Tryz.prog.fieldsOf 46)):=by kernel_rfl
 have hp:Tryz.prog.stoodInHeld 46=false:=by kernel_rfl
 rw [show (10000:Nat)=9999+1 from rfl,run_equalIn_agg w 9999 46 _ _ hS hp];simp only [Program.fieldsOf,Tryz.underlying46];have u3:=Tryz.underlying3;have u5:=Tryz.underlying32;have u9:=Tryz.underlying9;go_simp;by_cases h1:a=a'<;>by_cases h2:b=b'<;>by_cases h3:s=s'<;>by_cases h4:d=d'<;>simp [h1,h2,h3,h4]
theorem QwA (a b d a' b' d':Int) (s s':List UInt8) (w:World):(binOp .neq 46 (.agg #[.int .i64 a,.int .u64 b,.string ⟨s.toArray⟩,.int .i64 d]) (.agg #[.int .i64 a',.int .u64 b',.string ⟨s'.toArray⟩,.int .i64 d'])).run Tryz.prog w = .ok (.bool (!(a==a'&&b==b'&&s==s'&&d==d'))) w:=by
 rw [run_neq_struct,Qvt];rfl
theorem Qvu (a b d:Int) (s:List UInt8) (w:World):(binOp .neq 46 (.agg #[.int .i64 a,.int .u64 b,.string ⟨s.toArray⟩,.int .i64 d]) (.agg #[.int .i64 a,.int .u64 b,.string ⟨s.toArray⟩,.int .i64 d])).run Tryz.prog w = .ok (.bool false) w:=by
 rw [QwA];simp
theorem NSl.cells {w:World} {a:Option Addr} {n c:Nat} {l:List Nd} (h:NSl w (.slice a n c) l) (i:Nat) (hi:i<l.length):∃ b off,a=some ⟨b,off,none⟩/\TAt w b (off+i * 4) l[i]:=by
 obtain ⟨⟨a',cap',hv,hc⟩,_⟩:=h;injection hv with e1 _ _;subst e1;obtain ⟨b,off,e,hk⟩:=hc (by rintro rfl;simp at hi);exact ⟨b,off,e,hk i hi⟩
set_option maxRecDepth 100000 in
theorem QjM (va vb:Value) (l:List Nd) (w:World) (h1:NSl w va l) (h2:NSl w vb l) (hl:l.length<=9223372036854770000) :
  Calls Tryz.prog 23 #[va,vb] w fun e w'=>e = .returned (.bool true)/\∃ n,w'=w.drewN n:=by
 have H1:=h1;have H2:=h2;obtain ⟨⟨a1,p1,rfl,hc1⟩,_⟩:=H1;obtain ⟨⟨a2,p2,rfl,hc2⟩,_⟩:=H2;have K1:=Za h1.cells;have K2:=Za h2.cells;clear h1 h2 hc1 hc2;go_enter Tryz.func23,Tryz.ntmps23;go_wp2_with fail;go_loopw [5] (fun i wr=>∃ k:Nat,i = .int .i64 k/\k<=l.length/\∃ n,wr=w.drewN n) (fun i _=>l.length-(intOf i).toNat)
 case atStart=>exact ⟨0,rfl,Nat.zero_le _,0,rfl⟩
 case round =>
  obtain ⟨k,rfl,hk,n,rfl⟩:=hrel;by_cases hlt:k<l.length
  ·obtain ⟨b1,o1,e1,c0,c1,c2,c3⟩:=K1.out k hlt;obtain ⟨b2,o2,e2,d0,d1,d2,d3⟩:=K2.out k hlt;subst e1 e2;generalize l[k]=t at *;obtain ⟨tk,tn,ts,tp⟩:=t;simp only at c0 c1 c2 c3 d0 d1 d2 d3;have hN:=Qvu tk tn tp ts;go_wp2_with fail;go_quiet (fail);go_wp2_with fail;go_roundw
   case rel=>exact ⟨k+1,by go_num,by omega,_,rfl⟩
   case measure=>simp [intOf];omega
  ·go_wp2_with fail;go_ret;exact ⟨rfl,n,rfl⟩
def aw1:List UInt8:=[78,97,109,101,32,40,95,65,68,82,44,32,49,54,41]
def awP:List Nd:=[⟨13,0,[],2⟩,⟨3,0,[95,65,68,82],0⟩,⟨1,16,[],0⟩]
theorem QwB:Qlm aw1=(awP,0,0):=by decide +kernel
end
end Go.Proofs.YtoohondkpddmcaaGreatDoor
