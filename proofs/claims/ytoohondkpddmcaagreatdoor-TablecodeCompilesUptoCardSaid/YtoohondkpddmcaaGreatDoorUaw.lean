/- Rs Ms Lp Lx Fc -/
import Derived.Test.YtoohondkpddmcaaGreatDoorUzz
import Derived.Test.YtoohondkpddmcaaGreatDoorUav
import Derived.Test.YtoohondkpddmcaaGreatDoorUat
import Derived.Test.YtoohondkpddmcaaGreatDoorUaj
import Derived.Test.YtoohondkpddmcaaGreatDoorUap
import Derived.Test.YtoohondkpddmcaaGreatDoorUak
namespace Go.Proofs.YtoohondkpddmcaaGreatDoor
set_option maxHeartbeats 32000000
set_option linter.unusedVariables false
set_option linter.unusedSimpArgs false
section
open Go.RowKit
attribute [local go_sem] ByteArray.mk_append_mk Qac Qad Qae
set_option maxRecDepth 100000 in
theorem Qlb (p:List Nd) (hps:∀ t∈p,t.str.length<=1048576) (v:Value) (w:World) (hv:NSl w v p) (hl:p.length<=9223372036854775000) :
  Calls Tryz.prog 21 #[v] w fun e w'=>e = .returned (.bool (QaS p))/\Below w.heap.size w w':=by
 obtain ⟨X,hX⟩:∃ X,Hid (QaS p=X):=⟨_,Za rfl⟩;have HV0:=Za hv;have HB0:=Za (Below.refl w.heap.size w);obtain ⟨a,cap,rfl,hc⟩:=hv.1;rw [hX.out];clear hc hv;by_cases h2:p.length<=2048
 ·have h2':¬ (p.length:Int)>2048:=by omega
  have HX0:Hid (QbT p p.length 0=X):=Za (by rw [<- hX.out];unfold QaS;rw [decide_eq_true h2,Bool.true_and]);have HEL:=Za (Qqv p (by omega) hps 32 1 (by omega) (by omega)).el;obtain ⟨L,hL⟩:∃ L,p.length=L:=⟨_,rfl⟩;have HL:=Za hL;rw [hL] at h2 h2' hl HV0 HX0 |-;clear hL hX;go_enter Tryz.func21,Tryz.ntmps21;go_wp2_with fail;go_loopw [3] (fun x wr=>∃ (f q:Nat),x = .int .i64 q/\q<=L/\L<=f+q/\Hid (QbT p f q=X)/\Hid (NSl wr (.slice a L cap) p)/\Hid (Below w.heap.size w wr)) (fun x _=>L-(intOf x).toNat)
  case atStart=>exact ⟨L,0,rfl,by omega,by omega,HX0,HV0,HB0⟩
  case round =>
   clear HX0 HV0 HB0;obtain ⟨f,q,rfl,hq,hf,HX,HV,HB⟩:=hrel;obtain ⟨w4,rfl⟩:∃ y:World,y=wr:=⟨_,rfl⟩;by_cases hlt:q<L
   ·have hlt':(q:Int)<(L:Int):=by omega
    have hqp:q<p.length:=by rw [HL.out];exact hlt
    obtain ⟨f,rfl⟩:∃ g,f=g+1:=⟨f-1,by omega⟩;have HXK:Hid (X=match Qan p 32 false 68 q with|none=>false|some j=>QbT p f j):=Za (by rw [<- HX.out,QbT,if_neg (by rw [HL.out];omega)]<;>rfl);have hne:p≠[]:=by rintro rfl;simp at hqp
    obtain ⟨⟨a2,cap2,hva,hc⟩,_⟩:=HV.out;obtain ⟨g,off,hga,_⟩:=hc hne;have hag:a=some ⟨g,off,none⟩:=by
     injection hva with e1 _ _;rw [e1,hga]
    subst hag;obtain ⟨c0,c1,c2,c3⟩:=HV.out.tat q hqp;obtain ⟨qk,hqk⟩:∃ z,p[q].kind=z:=⟨_,rfl⟩;rw [hqk] at c0;obtain ⟨ab,hab⟩:∃ z,Hid (Qar 68 qk=z):=⟨_,Za rfl⟩;have HPER:Hid (∀ w,Calls Tryz.prog 53 #[.int .u8 68,.int .i64 qk] w fun e w'=>e = .returned (.bool ab)/\w=w'):=Za (fun w=>Qi5 68 qk ab hab w);clear hc hva hga c1 c2 c3 HX;cases ab with
    | false =>
      have HX2:Hid (X=false):=Za (by
       rw [HXK.out];have:Qan p 32 false 68 q=none:=by
        rw [Qan,List.getElem?_eq_getElem hqp];simp only [];rw [if_neg (by rw [hqk,hab.out];simp)]
       rw [this])
      clear HXK;go_wp2_with fail;((with_reducible refine (HPER.out _).mono ?_));rintro e w5 ⟨rfl,rfl⟩;go_wp2_with fail;go_ret;rw [HX2.out];exact ⟨rfl,HB.out⟩
    | true =>
      have HC:Hid (Calls Tryz.prog 54 #[.slice (some ⟨g,off,none⟩) L cap,.int .i64 q,.int .u8 120,.int .i64 1] w4 (Qei w4 (Qan p 32 false 68 q))):=Za (HEL.out 68 q _ w4 (by decide) HV.out hqp (by rw [hqk];exact hab.out));unfold Qei at HC;cases hx:Qan p 32 false 68 q with
      | none =>
        rw [hx] at HC HXK;have HX2:Hid (X=false):=HXK;clear hx HXK;unfold wI at HC;go_wp2_with fail;((with_reducible refine (HPER.out _).mono ?_));rintro e w5 ⟨rfl,rfl⟩;go_wp2_with fail;((with_reducible refine HC.out.mono ?_));rintro e w5 ⟨rfl,hb5⟩;have HB5:Hid (Below w.heap.size w w5):=Za (Qah HB.out Zc hb5);clear hb5;go_wp2_with fail;go_ret;rw [HX2.out];exact ⟨rfl,HB5.out⟩
      | some z =>
        rw [hx] at HC HXK;have hz:=Qau p 32 false 68 q z hx;rw [HL.out] at hz;obtain ⟨hz1,hz2⟩:=hz;have HX5:Hid (QbT p f z=X):=Za HXK.out.symm;clear hx HXK;unfold wI at HC;have hz0:¬ (z:Int)<0:=by omega
        go_wp2_with fail;((with_reducible refine (HPER.out _).mono ?_));rintro e w5 ⟨rfl,rfl⟩;go_wp2_with fail;((with_reducible refine HC.out.mono ?_));rintro e w5 ⟨rfl,hb5⟩;have HB5:Hid (Below w.heap.size w w5):=Za (Qah HB.out Zc hb5);have HV5:=Za (HV.out.below hb5);clear hb5 HC;go_wp2_with fail;go_roundw
        case rel=>exact ⟨f,z,rfl,hz2,by omega,HX5,HV5,HB5⟩
        case measure=>simp [intOf];omega
   ·have hlt':¬ (q:Int)<(L:Int):=by omega
    have HX5:Hid (X=true):=Za (by
     rw [<- HX.out];cases f with
     | zero=>rw [QbT];exact decide_eq_true (by rw [HL.out];omega)
     | succ f=>rw [QbT,if_pos (by rw [HL.out];omega)])
    clear HX;go_wp2_with fail;go_ret;rw [HX5.out];exact ⟨rfl,HB.out⟩
 ·have h2':(p.length:Int)>2048:=by omega
  have HX0:Hid (X=false):=Za (by rw [<- hX.out];unfold QaS;rw [decide_eq_false h2,Bool.false_and]);go_enter Tryz.func21,Tryz.ntmps21;go_wp2_with fail;go_ret;rw [HX0.out];exact ⟨rfl,HB0.out⟩
theorem Qfu (p:List Nd) (hps:∀ t∈p,t.str.length<=1048576) (b:Bool) (H:Hid (QaS p=b)) (v:Value) (w:World) (hv:NSl w v p) (hl:p.length<=9223372036854775000) :
  Calls Tryz.prog 21 #[v] w fun e w'=>e = .returned (.bool b)/\Below w.heap.size w w':=by
 have:=Qlb p hps v w hv hl;rw [H.out] at this;exact this
end
section
open Go.RowKit
attribute [local go_sem] ByteArray.mk_append_mk Qac Qad Qae
theorem Qoo {p:List Nd} {f i:Nat} (h:p.length<=i):Qbe p f i=[]:=by
 cases f with
 | zero=>rfl
 | succ f=>rw [Qbe,if_pos h]
theorem QiF {p:List Nd} {f i:Nat} (h:i<p.length) (hv:QbT p f i=true):∃ g j,f=g+1/\Qan p 32 false 68 i=some j/\QbT p g j=true/\Qbe p f i=(Qak p 32 i).1++Qbe p g j:=by
 cases f with
 | zero=>rw [QbT,decide_eq_true_eq] at hv;omega
 | succ g =>
   rw [QbT,if_neg (by omega)] at hv;cases hx:Qan p 32 false 68 i with
   | none=>rw [hx] at hv;cases hv
   | some j =>
     rw [hx] at hv;refine ⟨g,j,rfl,rfl,hv,?_⟩;rw [Qbe,if_neg (by omega),Qa7 p 32 false 68 i j hx]
set_option maxRecDepth 100000 in
theorem Qop (m:Int) (p:List Nd) (v:Value) (w:World) (hv:NSl w v p) (hm:SynG m w) (hP:Qi4 p) (hl:p.length<=9223372036854775000) :
  Calls Tryz.prog 17 #[v] w fun e w'=>e = .returned (.tuple #[.string ⟨(QcS p).1.toArray⟩,.int .i64 (QcS p).2])/\Below w.heap.size w w':=by
 have HVA:=Za (Qmr m p v w hv hm hl);have HEC:=Za (EnC.start (m:=m) hv hm.1);obtain ⟨B,hB⟩:∃ B,w.heap.size=B:=⟨_,rfl⟩;rw [hB] at HVA HEC |-;obtain ⟨Z,hZ⟩:∃ Z,Hid (QcS p=Z):=⟨_,Za rfl⟩;rw [hZ.out];obtain ⟨vb,hvb⟩:∃ z,QaS p=z:=⟨_,rfl⟩;have HVB:=Za hvb;rw [hvb] at HVA;have HZ:Hid (Z=if vb=false then ([],1) else if 65536<(Qbe p p.length 0).length then ([],11) else (Qbe p p.length 0,0)):=Za (by rw [<- hZ.out,<- hvb]<;>rfl);obtain ⟨a,cap,hvv,_⟩:=hv.1;subst hvv;cases vb with
 | false =>
   have HZ2:Hid (Z=([],1)):=Za (by rw [HZ.out,if_pos rfl]);clear hv hm hP hl hZ hB hvb HZ;go_enter Tryz.func17,Tryz.ntmps17;go_wp2_with fail;((with_reducible refine HVA.out.mono ?_));rintro e w1 ⟨rfl,hb1⟩;have HB1:=Za hb1;clear hb1 HVA;go_wp2_with fail;go_ret2;rw [HZ2.out];exact ⟨rfl,HB1.out⟩
 | true =>
   rw [if_neg (by decide)] at HZ;have hvb2:=hvb;unfold QaS at hvb2;rw [Bool.and_eq_true,decide_eq_true_eq] at hvb2;have hpl:p.length<=2048:=hvb2.1;have HTL:Hid ((Qbe p p.length 0).length<=526336):=Za (Qn8 hvb);have HTP:Hid (QbT p p.length 0=true):=Za hvb2.2;have IH:=Za (Qqq (.slice a p.length cap) p m (by omega) hP 32);unfold EnT at IH;obtain ⟨T,hT⟩:∃ T,Qbe p p.length 0=T:=⟨_,rfl⟩;rw [hT] at HZ HTL;have HT0:Hid (([]:List UInt8)++Qbe p p.length 0=T):=Za hT;obtain ⟨L,hL⟩:∃ L,p.length=L:=⟨_,rfl⟩;have HL:=Za hL;rw [hL] at HTP HT0 HVA HEC IH hpl |-;have hL0:(0:Int)<=(L:Int):=by omega
   clear hv hm hP hl hZ hvb hvb2 hT hL;go_enter Tryz.func17,Tryz.ntmps17;go_wp2_with fail;((with_reducible refine HVA.out.mono ?_));rintro e w1 ⟨rfl,hb1⟩;have HW1:Hid (EnB B w1 w1):=Za (EnB.refl _ _);have HEC1:=Za (HEC.out.below hb1);have HB1:=Za hb1;have HBN:Hid (Bytes w1 B (.slice none 0 0) []):=Za (Bytes.nil _ _);clear hb1 HVA HEC;go_wp2_with fail;go_loopw [4,5] (fun u y wr=>∃ (z:Value) (f ii:Nat) (st:List UInt8),z=u/\y = .int .i64 ii/\ii<=L/\Hid (QbT p f ii=true)/\Hid (Bytes wr B z st)/\Hid (st++Qbe p f ii=T)/\Hid (EnB B w1 wr)) (fun _ y _=>L-(intOf y).toNat)
   case atStart=>exact ⟨_,L,0,[],rfl,rfl,Nat.zero_le _,HTP,HBN,HT0,HW1⟩
   case round =>
    obtain ⟨z,f,ii,st,rfl,rfl,hii,HV,HB,HT,HBW⟩:=hrel;obtain ⟨w3,rfl⟩:∃ y:World,y=wr:=⟨_,rfl⟩;clear HTP HBN HT0 HW1;by_cases hlt:ii<L
    ·have hlt':(ii:Int)<(L:Int):=by omega
     obtain ⟨g,j,_,hva,hvt,het⟩:=QiF (by rw [HL.out];exact hlt) HV.out;have hj:ii<j/\j<=L:=by
      have:=Qau p 32 false 68 ii j hva;rw [HL.out] at this;omega
     have HT1:Hid ((st++(Qak p 32 ii).1)++Qbe p g j=T):=Za (by rw [List.append_assoc,<- het];exact HT.out);have HV1:=Za hvt;have HCL:=Za (IH.out false 68 ii j z st B w3 hva HB.out (HEC1.out.below HBW.out.1) (by
      have h1:=congrArg List.length HT1.out;have h2:=HTL.out;simp only [List.length_append] at h1;omega))
     clear hva hvt het HV HB HT;go_wp2_with fail;((with_reducible refine HCL.out.mono ?_));rintro e w4 ⟨cv4,rfl,hb4,hbw4⟩;have HB4:=Za hb4;have HBW4:=Za (HBW.out.trans hbw4);clear hb4 hbw4 HCL HBW;go_wp2_with fail;go_roundw
     case rel=>exact ⟨_,g,j,_,rfl,rfl,by omega,HV1,HB4,HT1,HBW4⟩
     case measure=>simp [intOf];omega
    ·have hlt':¬ (ii:Int)<(L:Int):=by omega
     have HST:Hid (st=T):=Za (by
      have h:=HT.out;rw [Qoo (by rw [HL.out];omega),List.append_nil] at h;exact h)
     obtain ⟨ca,cc,rfl⟩:=HB.out.form;have hcv:=HB.out.conv;have HFIN:Hid (Below B w w3):=Za (HB1.out.trans HBW.out.1);have hst:st.length<=526336:=by rw [HST.out];exact HTL.out
     by_cases h6:65536<st.length
     ·have h6':(st.length:Int)>65536:=by omega
      have HZ2:Hid (Z=([],11)):=Za (by rw [HZ.out,if_pos (by rw [<- HST.out];exact h6)]);clear HT HV hcv h6 HBW;go_wp2_with fail;go_ret2;rw [HZ2.out];exact ⟨rfl,HFIN.out⟩
     ·have h6':¬ (st.length:Int)>65536:=by omega
      have HZ2:Hid (Z=(st,0)):=Za (by rw [HZ.out,if_neg (by rw [<- HST.out];exact h6),HST.out]);clear HT HV h6 HBW;go_wp2_with fail;go_ret2;rw [HZ2.out];exact ⟨rfl,HFIN.out⟩
set_option maxRecDepth 100000 in
theorem Qmx (p:List Nd) (v:Value) (w:World) (hv:NSl w v p) (hP:Qi4 p) (hl:p.length<=9223372036854775000) :
  Calls Tryz.prog 18 #[v] w fun e w'=>e = .returned (.tuple #[.string ⟨(QcS p).1.toArray⟩,.int .i64 (QcS p).2])/\Below w.heap.size w w':=by
 have HVA:=Za (Qlb p (fun t ht=>(hP t ht).1) v w hv hl);have HSL:=Za hv;obtain ⟨B,hB⟩:∃ B,w.heap.size=B:=⟨_,rfl⟩;have HBE:=Za hB;rw [hB] at HVA |-;obtain ⟨Z,hZ⟩:∃ Z,Hid (QcS p=Z):=⟨_,Za rfl⟩;rw [hZ.out];obtain ⟨vb,hvb⟩:∃ z,QaS p=z:=⟨_,rfl⟩;rw [hvb] at HVA;have HZ:Hid (Z=if vb=false then ([],1) else if 65536<(Qbe p p.length 0).length then ([],11) else (Qbe p p.length 0,0)):=Za (by rw [<- hZ.out,<- hvb]<;>rfl);obtain ⟨a,cap,hvv,_⟩:=hv.1;subst hvv;cases vb with
 | false =>
   have HZ2:Hid (Z=([],1)):=Za (by rw [HZ.out,if_pos rfl]);clear hv hP hl hZ hB hvb HZ HSL;go_enter Tryz.func18,Tryz.ntmps18;go_wp2_with fail;((with_reducible refine HVA.out.mono ?_));rintro e w1 ⟨rfl,hb1⟩;have HB1:=Za hb1;clear hb1 HVA;go_wp2_with fail;go_ret2;rw [HZ2.out];exact ⟨rfl,HB1.out⟩
 | true =>
   rw [if_neg (by decide)] at HZ;have hvb2:=hvb;unfold QaS at hvb2;rw [Bool.and_eq_true,decide_eq_true_eq] at hvb2;have hpl:p.length<=2048:=hvb2.1;have HTL:Hid ((Qbe p p.length 0).length<=526336):=Za (Qn8 hvb);have HTP:Hid (QbT p p.length 0=true):=Za hvb2.2;have IH:=Za (Qqr (.slice a p.length cap) p (by omega) hP 32);unfold EnR at IH;obtain ⟨T,hT⟩:∃ T,Qbe p p.length 0=T:=⟨_,rfl⟩;rw [hT] at HZ HTL;have HT0:Hid (([]:List UInt8)++Qbe p p.length 0=T):=Za hT;obtain ⟨L,hL⟩:∃ L,p.length=L:=⟨_,rfl⟩;have HL:=Za hL;rw [hL] at HTP HT0 HVA HSL IH hpl |-;have hL0:(0:Int)<=(L:Int):=by omega
   clear hv hP hl hZ hvb hvb2 hT hL hB;go_enter Tryz.func18,Tryz.ntmps18;go_wp2_with fail;((with_reducible refine HVA.out.mono ?_));rintro e w1 ⟨rfl,hb1⟩;have HB1:=Za hb1;clear hb1 HVA;go_wp2_with fail;go_loopw [4,5] (fun u y wr=>∃ (f ii:Nat) (st:List UInt8),u = .string ⟨st.toArray⟩/\y = .int .i64 ii/\ii<=L/\st.length<=526336/\Hid (QbT p f ii=true)/\Hid (st++Qbe p f ii=T)/\Hid (Below B w wr)) (fun _ y _=>L-(intOf y).toNat)
   case atStart=>exact ⟨L,0,[],rfl,rfl,Nat.zero_le _,by simp,HTP,HT0,HB1⟩
   case round =>
    obtain ⟨f,ii,st,rfl,rfl,hii,hst,HV,HT,HBW⟩:=hrel;obtain ⟨w3,rfl⟩:∃ y:World,y=wr:=⟨_,rfl⟩;clear HTP HT0 HB1;by_cases hlt:ii<L
    ·have hlt':(ii:Int)<(L:Int):=by omega
     obtain ⟨g,j,_,hva,hvt,het⟩:=QiF (by rw [HL.out];exact hlt) HV.out;have hj:ii<j/\j<=L:=by
      have:=Qau p 32 false 68 ii j hva;rw [HL.out] at this;omega
     have HT1:Hid ((st++(Qak p 32 ii).1)++Qbe p g j=T):=Za (by rw [List.append_assoc,<- het];exact HT.out);have HV1:=Za hvt;have HCL:=Za (IH.out false 68 ii j w3 hva (HSL.out.below (by rw [HBE.out];exact HBW.out)));obtain ⟨y,hy⟩:∃ y,(Qak p 32 ii).1=y:=⟨_,rfl⟩;rw [hy] at HCL HT1;have hyl:y.length<=526336:=by
      have h1:=congrArg List.length HT1.out;have h2:=HTL.out;simp only [List.length_append] at h1;omega
     have hsy:(st++y).length<=526336:=by
      have h1:=congrArg List.length HT1.out;have h2:=HTL.out;rw [List.length_append] at h1;omega
     have HBL:Hid (B<=w3.heap.size):=Za (by have:=HBW.out.size;rw [HBE.out] at this;exact this);clear hva hvt het HV HT hy;go_wp2_with fail;((with_reducible refine HCL.out.mono ?_));rintro e w4 ⟨rfl,hbw4⟩;have HBW4:=Za (HBW.out.trans (hbw4.mono HBL.out));clear hbw4 HCL HBW;go_wp2_with fail;go_roundw
     case rel=>exact ⟨g,j,st++y,rfl,rfl,by omega,hsy,HV1,HT1,HBW4⟩
     case measure=>simp [intOf];omega
    ·have hlt':¬ (ii:Int)<(L:Int):=by omega
     have HST:Hid (st=T):=Za (by
      have h:=HT.out;rw [Qoo (by rw [HL.out];omega),List.append_nil] at h;exact h)
     by_cases h6:65536<st.length
     ·have h6':(st.length:Int)>65536:=by omega
      have HZ2:Hid (Z=([],11)):=Za (by rw [HZ.out,if_pos (by rw [<- HST.out];exact h6)]);clear HT HV h6;go_wp2_with fail;go_ret2;rw [HZ2.out];exact ⟨rfl,HBW.out⟩
     ·have h6':¬ (st.length:Int)>65536:=by omega
      have HZ2:Hid (Z=(st,0)):=Za (by rw [HZ.out,if_neg (by rw [<- HST.out];exact h6),HST.out]);clear HT HV h6;go_wp2_with fail;go_ret2;rw [HZ2.out];exact ⟨rfl,HBW.out⟩
end
section
open Go.RowKit
attribute [local go_sem] ByteArray.mk_append_mk Qac Qad Qae SameB.some SameB.all
theorem Qa8 {w:World} {b t:Nat} {c0 c1 c2 c3 c4 c5:Value} (h:w.heap[b]?=some (.cells #[c0,c1,c2,c3,c4,c5] t (0,0))) :
  w.cell? ⟨b,0,none⟩=some c0/\w.cell? ⟨b,1,none⟩=some c1/\w.cell? ⟨b,2,none⟩=some c2/\w.cell? ⟨b,3,none⟩=some c3/\w.cell? ⟨b,4,none⟩=some c4/\w.cell? ⟨b,5,none⟩=some c5 :=
 ⟨(cell_of_row w _ 0 _ _ _ h).trans rfl,(cell_of_row w _ 1 _ _ _ h).trans rfl,(cell_of_row w _ 2 _ _ _ h).trans rfl,(cell_of_row w _ 3 _ _ _ h).trans rfl,(cell_of_row w _ 4 _ _ _ h).trans rfl,(cell_of_row w _ 5 _ _ _ h).trans rfl⟩
abbrev tdO (s:List UInt8) (pos e bl:Int) (nv:Value) (er:Int):Obj:=.cells #[.string ⟨s.toArray⟩,.int .i64 pos,.int .i64 e,.int .i64 bl,nv,.int .i64 er] 92 (0,0)
structure TSt (B b:Nat) (w:World) (s:List UInt8) (pos e:Nat) (bl:Nat) (o:List Nd):Prop where
 ex:∃ nv,w.heap[b]?=some (tdO s pos e bl nv 0)/\NodesI w B nv o
 base:B<=b
 size:B<=w.heap.size
theorem TSt.below {B b:Nat} {w w':World} {s:List UInt8} {pos e bl:Nat} {o:List Nd} (h:TSt B b w s pos e bl o) (hb:Below w.heap.size w w'):TSt B b w' s pos e bl o:=by
 obtain ⟨⟨nv,h1,h2⟩,h3,h4⟩:=h;exact ⟨⟨nv,Qab h1 hb,h2.below hb⟩,h3,Nat.le_trans h4 hb.size⟩
theorem TSt.alloc {B b:Nat} {w:World} {s:List UInt8} {pos e bl:Nat} {o:List Nd} (h:TSt B b w s pos e bl o) (x:Obj):TSt B b (w.alloc x) s pos e bl o:=h.below (Zb.alloc Zc _)
theorem QcQ {w:World} {B:Nat} {v:Value} {l:List Nd} (h:NodesI w B v l) {b:Nat} {s:List UInt8} {pos e bl er:Int} {nv:Value} (hb:w.heap[b]?=some (tdO s pos e bl nv er)):v.ownBlock≠some b:=by
 intro e;obtain ⟨cur,hc⟩:=QcB h e;rw [hb] at hc;injection hc with hc;injection hc with _ h2 _;exact absurd h2 (by decide)
theorem TSt.lt {B b:Nat} {w:World} {s:List UInt8} {pos e bl:Nat} {o:List Nd} (h:TSt B b w s pos e bl o):b<w.heap.size:=by
 obtain ⟨nv,h1,_⟩:=h.ex;exact lt_of_block h1
theorem TSt.set {B b:Nat} {w:World} {s:List UInt8} {pos e bl:Nat} {o:List Nd} (h:TSt B b w s pos e bl o) (k:Nat) (u:Value):Below B w (w.setCell ⟨b,k,none⟩ u):=Zb.setCell h.base _
theorem TSt.setPos {B b:Nat} {w:World} {s:List UInt8} {pos e bl:Nat} {o:List Nd} (h:TSt B b w s pos e bl o) (pos':Nat):TSt B b (w.setCell ⟨b,1,none⟩ (.int .i64 pos')) s pos' e bl o:=by
 obtain ⟨nv,h1,h2⟩:=h.ex;exact ⟨⟨nv,heap_setCell_same _ _ 1 _ _ _ h1,Qa6 h2 _ _ (QcQ h2 h1)⟩,h.base,Nat.le_trans h.size (h.set 1 _).size⟩
theorem TSt.setEnd {B b:Nat} {w:World} {s:List UInt8} {pos e bl:Nat} {o:List Nd} (h:TSt B b w s pos e bl o) (e':Nat):TSt B b (w.setCell ⟨b,2,none⟩ (.int .i64 e')) s pos e' bl o:=by
 obtain ⟨nv,h1,h2⟩:=h.ex;exact ⟨⟨nv,heap_setCell_same _ _ 2 _ _ _ h1,Qa6 h2 _ _ (QcQ h2 h1)⟩,h.base,Nat.le_trans h.size (h.set 2 _).size⟩
theorem TSt.setBl {B b:Nat} {w:World} {s:List UInt8} {pos e bl:Nat} {o:List Nd} (h:TSt B b w s pos e bl o) (bl':Nat):TSt B b (w.setCell ⟨b,3,none⟩ (.int .i64 bl')) s pos e bl' o:=by
 obtain ⟨nv,h1,h2⟩:=h.ex;exact ⟨⟨nv,heap_setCell_same _ _ 3 _ _ _ h1,Qa6 h2 _ _ (QcQ h2 h1)⟩,h.base,Nat.le_trans h.size (h.set 3 _).size⟩
def Qlc (b:Nat) (q:Nat) (err:Int) (w:World):Prop:=∃ (s:List UInt8) (e bl:Int) (nv:Value),w.heap[b]?=some (tdO s q e bl nv err)
def TBadO (B b:Nat) (q:Nat) (err:Int) (w:World) (o:List Nd):Prop:=∃ (s:List UInt8) (e bl:Int) (nv:Value),w.heap[b]?=some (tdO s q e bl nv err)/\NodesI w B nv o/\B<=b/\B<=w.heap.size
theorem TBadO.bad {B b q:Nat} {err:Int} {w:World} {o:List Nd} (h:TBadO B b q err w o):Qlc b q err w:=by
 obtain ⟨s,e,bl,nv,h1,_⟩:=h;exact ⟨s,e,bl,nv,h1⟩
def TPost (B b:Nat) (w:World) (s:List UInt8) (e bl:Nat) (o:List Nd) (x:DR) (en:Ending) (w':World):Prop :=
 Below B w w'/\match x with
  | .no q err=>en = .returned (.bool false)/\Qlc b q err w'
  | .ok q ns=>en = .returned (.bool true)/\TSt B b w' s q e bl (o++ns)
def QaN (bl:Nat):Bool:=decide (0<bl)
theorem QgS (B b:Nat) (w:World) (s:List UInt8) (pos e bl:Nat) (o:List Nd) (h:TSt B b w s pos e bl o) :
  Calls Tryz.prog 103 #[.pointer (some ⟨b,0,none⟩)] w fun en w'=>en = .returned (.bool false)/\Below B w w'/\TBadO B b pos 3 w' o:=by
 have HB:=Za (h.set 5 (.int .i64 3));obtain ⟨nv,h1,h2⟩:=h.ex;have HE:=Za (show TBadO B b pos 3 (w.setCell ⟨b,5,none⟩ (.int .i64 3)) o from ⟨_,_,_,_,heap_setCell_same _ _ 5 _ _ (.int .i64 3) h1,Qa6 h2 _ _ (QcQ h2 h1),h.base,Nat.le_trans h.size (h.set 5 _).size⟩);obtain ⟨c0,c1,c2,c3,c4,c5⟩:=Qa8 h1;have f5:=Qay h1 5;clear h h1 h2;go_enter Tryz.func103,Tryz.ntmps103;go_wp2_with fail;go_ret;exact ⟨rfl,HB.out,HE.out⟩
theorem QhD (B b:Nat) (w:World) (s:List UInt8) (pos e bl:Nat) (o:List Nd) (h:TSt B b w s pos e bl o) :
  Calls Tryz.prog 103 #[.pointer (some ⟨b,0,none⟩)] w fun en w'=>en = .returned (.bool false)/\Below B w w'/\Qlc b pos 3 w' :=
 (QgS B b w s pos e bl o h).mono fun _ _ ⟨a,c,d⟩=>⟨a,c,d.bad⟩
theorem QjI (B b:Nat) (w:World) (s:List UInt8) (pos e bl:Nat) (o:List Nd) (h:TSt B b w s pos e bl o) :
  Calls Tryz.prog 100 #[.pointer (some ⟨b,0,none⟩)] w fun en w'=>en = .returned (.bool false)/\Below B w w'/\TBadO B b pos (QeU (QaN bl)) w' o:=by
 have HB:=Za (h.set 5 (.int .i64 4));have HS:=Za h.base;obtain ⟨nv,h1,h2⟩:=h.ex;have he:(w.setCell ⟨b,5,none⟩ (.int .i64 4)).heap[b]?=some (tdO s pos e bl nv 4):=heap_setCell_same _ _ 5 _ _ (.int .i64 4) h1;have hn:=Qa6 h2 ⟨b,5,none⟩ (.int .i64 4) (QcQ h2 h1);have hz:=Nat.le_trans h.size (h.set 5 (.int .i64 4)).size;obtain ⟨c0,c1,c2,c3,c4,c5⟩:=Qa8 h1;have f5:=Qay h1 5;clear h h1 h2;go_enter Tryz.func100,Tryz.ntmps100;go_upto_region 2 with fail;generalize w.setCell ⟨b,5,none⟩ (.int .i64 4)=w1 at *;clear c0 c1 c2 c3 c4 c5 f5;obtain ⟨c0,c1,c2,c3,c4,c5⟩:=Qa8 he;have f5:=Qay he 5;by_cases hbl:0<bl
 ·have hbl':(bl:Int)>0:=by omega
  have HE2:=Za (show TBadO B b pos 3 (w1.setCell ⟨b,5,none⟩ (.int .i64 3)) o from ⟨_,_,_,_,heap_setCell_same _ _ 5 _ _ (.int .i64 3) he,Qa6 hn _ _ (QcQ hn he),HS.out,Nat.le_trans hz ((Below.refl B w1).setCell (p:=⟨b,5,none⟩) HS.out _).size⟩);have HB2:Hid (Below B w (w1.setCell ⟨b,5,none⟩ (.int .i64 3))):=Za (HB.out.setCell HS.out _);have HT:Hid (QeU (QaN bl)=3):=Za (by unfold QaN QeU;rw [decide_eq_true hbl]<;>rfl);clear he hbl hn hz;go_wp2_with fail;go_ret;rw [HT.out];exact ⟨rfl,HB2.out,HE2.out⟩
 ·have hbl':¬ (bl:Int)>0:=by omega
  have HT:Hid (QeU (QaN bl)=4):=Za (by unfold QaN QeU;rw [decide_eq_false hbl]<;>rfl);have HE:=Za (show TBadO B b pos 4 w1 o from ⟨_,_,_,_,he,hn,HS.out,hz⟩);clear he hbl hn hz;go_wp2_with fail;go_ret;rw [HT.out];exact ⟨rfl,HB.out,HE.out⟩
theorem QeW (B b:Nat) (w:World) (s:List UInt8) (pos e bl:Nat) (o:List Nd) (h:TSt B b w s pos e bl o) :
  Calls Tryz.prog 100 #[.pointer (some ⟨b,0,none⟩)] w fun en w'=>en = .returned (.bool false)/\Below B w w'/\Qlc b pos (QeU (QaN bl)) w' :=
 (QjI B b w s pos e bl o h).mono fun _ _ ⟨a,c,d⟩=>⟨a,c,d.bad⟩
theorem Qhg (B b:Nat) (w:World) (s:List UInt8) (pos e bl:Nat) (o:List Nd) (h:TSt B b w s pos e bl o) (hp:pos<=e) (he:e<=s.length) (hs:s.length<=1000000) :
  Calls Tryz.prog 105 #[.pointer (some ⟨b,0,none⟩)] w fun en w'=>en = .returned (.string ⟨(Qam s pos e).toArray⟩)/\∃ n,w'=w.drewN n:=by
 obtain ⟨nv,h1,h2⟩:=h.ex;obtain ⟨c0,c1,c2,c3,c4,c5⟩:=Qa8 h1;have HR:Hid (Qam s pos e=List.take (e-pos) (List.drop pos s)):=Za rfl;rw [HR.out];clear h h1 h2;go_enter Tryz.func105,Tryz.ntmps105;go_wp2_with fail;go_quiet (fail);go_wp2_with fail;go_ret;exact ⟨by simp,_,rfl⟩
end
section
open Go.RowKit
attribute [local go_sem] ByteArray.mk_append_mk Qac Qad Qae SameB.some SameB.all
theorem Qgc {w:World} {b t:Nat} {c0 c1 c2 c3 c4 c5 c6:Value} (h:w.heap[b]?=some (.cells #[c0,c1,c2,c3,c4,c5,c6] t (0,0))) :
  w.cell? ⟨b,0,none⟩=some c0/\w.cell? ⟨b,1,none⟩=some c1/\w.cell? ⟨b,2,none⟩=some c2/\w.cell? ⟨b,3,none⟩=some c3/\w.cell? ⟨b,4,none⟩=some c4/\w.cell? ⟨b,5,none⟩=some c5/\w.cell? ⟨b,6,none⟩=some c6 :=
 ⟨(cell_of_row w _ 0 _ _ _ h).trans rfl,(cell_of_row w _ 1 _ _ _ h).trans rfl,(cell_of_row w _ 2 _ _ _ h).trans rfl,(cell_of_row w _ 3 _ _ _ h).trans rfl,(cell_of_row w _ 4 _ _ _ h).trans rfl,(cell_of_row w _ 5 _ _ _ h).trans rfl,(cell_of_row w _ 6 _ _ _ h).trans rfl⟩
abbrev rdO (s:List UInt8) (pos e:Int) (inner:Bool) (nv:Value) (er at_:Int):Obj:=.cells #[.string ⟨s.toArray⟩,.int .i64 pos,.int .i64 e,.bool inner,nv,.int .i64 er,.int .i64 at_] 151 (0,0)
structure RdSt (B b:Nat) (w:World) (s:List UInt8) (pos e:Nat) (inner:Bool) (o:List Nd):Prop where
 ex:∃ nv,w.heap[b]?=some (rdO s pos e inner nv 0 0)/\NodesI w B nv o
 base:B<=b
 size:B<=w.heap.size
theorem RdSt.below {B b:Nat} {w w':World} {s:List UInt8} {pos e:Nat} {inner:Bool} {o:List Nd} (h:RdSt B b w s pos e inner o) (hb:Below w.heap.size w w'):RdSt B b w' s pos e inner o:=by
 obtain ⟨⟨nv,h1,h2⟩,h3,h4⟩:=h;exact ⟨⟨nv,Qab h1 hb,h2.below hb⟩,h3,Nat.le_trans h4 hb.size⟩
theorem Qgd {w:World} {B:Nat} {v:Value} {l:List Nd} (h:NodesI w B v l) {b:Nat} {s:List UInt8} {pos e er at_:Int} {inner:Bool} {nv:Value} (hb:w.heap[b]?=some (rdO s pos e inner nv er at_)):v.ownBlock≠some b:=by
 intro e;obtain ⟨cur,hc⟩:=QcB h e;rw [hb] at hc;injection hc with hc;injection hc with _ h2 _;exact absurd h2 (by decide)
theorem RdSt.lt {B b:Nat} {w:World} {s:List UInt8} {pos e:Nat} {inner:Bool} {o:List Nd} (h:RdSt B b w s pos e inner o):b<w.heap.size:=by
 obtain ⟨nv,h1,_⟩:=h.ex;exact lt_of_block h1
theorem RdSt.set {B b:Nat} {w:World} {s:List UInt8} {pos e:Nat} {inner:Bool} {o:List Nd} (h:RdSt B b w s pos e inner o) (k:Nat) (u:Value):Below B w (w.setCell ⟨b,k,none⟩ u):=Zb.setCell h.base _
theorem RdSt.setPos {B b:Nat} {w:World} {s:List UInt8} {pos e:Nat} {inner:Bool} {o:List Nd} (h:RdSt B b w s pos e inner o) (pos':Nat):RdSt B b (w.setCell ⟨b,1,none⟩ (.int .i64 pos')) s pos' e inner o:=by
 obtain ⟨nv,h1,h2⟩:=h.ex;exact ⟨⟨nv,heap_setCell_same _ _ 1 _ _ _ h1,Qa6 h2 _ _ (Qgd h2 h1)⟩,h.base,Nat.le_trans h.size (h.set 1 _).size⟩
theorem RdSt.setEnd {B b:Nat} {w:World} {s:List UInt8} {pos e:Nat} {inner:Bool} {o:List Nd} (h:RdSt B b w s pos e inner o) (e':Nat):RdSt B b (w.setCell ⟨b,2,none⟩ (.int .i64 e')) s pos e' inner o:=by
 obtain ⟨nv,h1,h2⟩:=h.ex;exact ⟨⟨nv,heap_setCell_same _ _ 2 _ _ _ h1,Qa6 h2 _ _ (Qgd h2 h1)⟩,h.base,Nat.le_trans h.size (h.set 2 _).size⟩
def RdBad (B b:Nat) (q:Nat) (err:Int) (w:World) (o:List Nd):Prop:=∃ (s:List UInt8) (pos e:Int) (inner:Bool) (nv:Value) (ms:List Nd),w.heap[b]?=some (rdO s pos e inner nv err q)/\NodesI w B nv (o++ms)/\(err=3\/err=4)/\B<=b/\B<=w.heap.size
theorem RdBad.below {B b q:Nat} {err:Int} {w w':World} {o:List Nd} (h:RdBad B b q err w o) (hb:Below w.heap.size w w'):RdBad B b q err w' o:=by
 obtain ⟨s,pos,e,inner,nv,ms,h1,h2,h3,h4,h5⟩:=h;exact ⟨s,pos,e,inner,nv,ms,Qab h1 hb,h2.below hb,h3,h4,Nat.le_trans h5 hb.size⟩
theorem RdBad.less {B b q:Nat} {err:Int} {w:World} {o ns:List Nd} (h:RdBad B b q err w (o++ns)):RdBad B b q err w o:=by
 obtain ⟨s,pos,e,inner,nv,ms,h1,h2,h3⟩:=h;exact ⟨s,pos,e,inner,nv,ns++ms,h1,by rw [<- List.append_assoc];exact h2,h3⟩
def RdBad0 (B b:Nat) (q:Nat) (err:Int) (w:World) (o:List Nd):Prop:=∃ (s:List UInt8) (pos e:Int) (inner:Bool) (nv:Value),w.heap[b]?=some (rdO s pos e inner nv err q)/\NodesI w B nv o/\(err=3\/err=4)/\B<=b/\B<=w.heap.size
theorem RdBad0.bad {B b q:Nat} {err:Int} {w:World} {o:List Nd} (h:RdBad0 B b q err w o):RdBad B b q err w o:=by
 obtain ⟨s,pos,e,inner,nv,h1,h2,h3⟩:=h;exact ⟨s,pos,e,inner,nv,[],h1,by rw [List.append_nil];exact h2,h3⟩
def KeptN (b:Nat) (w w':World):Prop:=∀ (s:List UInt8) (pos e:Int) (inner:Bool) (nv:Value) (er at_:Int),w.heap[b]?=some (rdO s pos e inner nv er at_)->∃ (s':List UInt8) (pos' e':Int) (inner':Bool) (er' at':Int),w'.heap[b]?=some (rdO s' pos' e' inner' nv er' at')
def Only (b:Nat) (w w':World):Prop:=w.heap.size<=w'.heap.size/\(∀ k,k<w.heap.size->k≠b->w'.heap[k]?=w.heap[k]?)/\KeptN b w w'
theorem Only.refl (b:Nat) (w:World):Only b w w:=⟨Nat.le_refl _,fun _ _ _=>rfl,fun s p e i nv r a h=>⟨s,p,e,i,r,a,h⟩⟩
theorem Only.trans {b:Nat} {w w1 w2:World} (h:Only b w w1) (k:Only b w1 w2):Only b w w2 :=
 ⟨Nat.le_trans h.1 k.1,fun j hj hne=>(k.2.1 j (Nat.lt_of_lt_of_le hj h.1) hne).trans (h.2.1 j hj hne),fun s p e i nv r a hb=>by
  obtain ⟨s1,p1,e1,i1,r1,a1,h1⟩:=h.2.2 s p e i nv r a hb;exact k.2.2 s1 p1 e1 i1 nv r1 a1 h1⟩
theorem Only.below {b:Nat} {w w':World} (h:Below w.heap.size w w'):Only b w w':=⟨h.size,fun k hk _=>h.block k hk,fun s p e i nv r a hb=>⟨s,p,e,i,r,a,Qab hb h⟩⟩
end
section
open Go.RowKit
def Qej:List Int:=[1,2,3,5,6,7,10,11,12,13,14,15,16,17,18,19,20,21,30,31,32,33,34,35,36,37,38,39,40,41,42,50,51,60,61,62,63,64,65,66,67,68,69,70,71,72,73,74,75,76,77,78,79,80,81,82,83,84,85,86,87,88]
theorem Qhh {k:UInt8} {op:Int} (h:Qar k op=true):op∈Qej:=by
 have hx:op=1\/op=2\/op=3\/op=5\/op=6\/op=7\/(10<=op/\op<=21)\/(30<=op/\op<=42)\/op=50\/op=51\/(60<=op/\op<=88):=by
  unfold Qar Qeb Qcm QcR at h
  repeat' split at h
  all_goals first|(cases h;done)|(simp only [Bool.or_eq_true,Bool.and_eq_true,beq_iff_eq,decide_eq_true_eq] at h;omega)
 have hall:∀ i:Fin 100,((i.val:Int)=1\/(i.val:Int)=2\/(i.val:Int)=3\/(i.val:Int)=5\/(i.val:Int)=6\/(i.val:Int)=7\/(10<=(i.val:Int)/\(i.val:Int)<=21)\/(30<=(i.val:Int)/\(i.val:Int)<=42)\/(i.val:Int)=50\/(i.val:Int)=51\/(60<=(i.val:Int)/\(i.val:Int)<=88))->(i.val:Int)∈Qej:=by decide +kernel
 obtain ⟨n,rfl⟩:=Int.eq_ofNat_of_zero_le (show 0<=op by omega);exact hall ⟨n,by omega⟩ hx
def Qge (p:List Nd):Prop:=∀ n∈p,0<=n.num/\n.num<=18446744073709551615
end
end Go.Proofs.YtoohondkpddmcaaGreatDoor
