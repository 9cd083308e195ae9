/- Rl Rm Rn -/
import Derived.Test.YtoohondkpddmcaaGreatDoorUzz
import Derived.Test.YtoohondkpddmcaaGreatDoorUbe
import Derived.Test.YtoohondkpddmcaaGreatDoorUaq
namespace Go.Proofs.YtoohondkpddmcaaGreatDoor
set_option maxHeartbeats 32000000
set_option linter.unusedVariables false
set_option linter.unusedSimpArgs false
section
open Go.RowKit
attribute [local go_sem] ByteArray.mk_append_mk Qac Qad Qae
theorem QiH (k:Int) (hk:k≠0) (r:List TokI) (b:Bool) (h:atT k r=b):(QeN r != k)=!b:=by
 rw [bne,QgO k hk,h]
theorem Qcv {L:List TokI} {i i':Nat} {r:List TokI} {k:Nat} (hi':i'<=L.length) (h1:r=L.drop i') (h2:r=(L.drop i).drop k) (hk1:1<=k) (hk:k<=(L.drop i).length):i<i':=by
 have e:=congrArg List.length (h1.symm.trans h2);rw [List.length_drop,List.length_drop] at e;rw [List.length_drop] at hk;rw [List.length_drop] at e;omega
set_option maxRecDepth 100000 in
theorem Qr2 (m:Int) (B b:Nat) (L:List TokI) (sub:UInt8->List TokI->PR) (n:Nat) (hs:Qr1 m B b L sub n) (hg:∀ k r,PGood1 r (sub k r)) (hL:L.length<=100000) (text:List UInt8) (i0:Nat) (o:List Nd) (w:World)
  (h:RSt m B b w L i0 (-1) (o++⟨5,0,text,0⟩::[])) (hn:L.length-i0<=n) :
  Calls Tryz.prog 142 #[.pointer (some ⟨b,0,none⟩),.int .i64 o.length] w (QhF m B b L w o (if atT 5 (L.drop i0)=true then QeI sub text (L.drop i0).tail else .no (L.drop i0))):=by
 have HS:=Za hs;have HGD:=Za hg;have HTK:=Za (Qem m 5 B b i0 w L _ h (by omega) (by decide));obtain ⟨X,hX⟩:∃ X,Hid ((if atT 5 (L.drop i0)=true then QeI sub text (L.drop i0).tail else .no (L.drop i0))=X):=⟨_,Za rfl⟩;rw [hX.out];have hol0:o.length<=200000:=by
  have:=h.ol;have:=h.ix;simp only [List.length_append,List.length_cons] at *;omega
 have HOL0:=Za hol0;clear hs hg h hol0;go_enter Tryz.func142,Tryz.ntmps142;go_wp2_with fail;((with_reducible refine HTK.out.mono ?_));rintro e w1 ⟨rfl,hb1,hres⟩;have HB1:=Za hb1;have hrel:(∃ (j:Nat) (ns:List Nd) (i:Nat),j<=7/\(j=0->ns=[])/\L.length-i<=n/\Hid (Qfv sub text j ns (L.drop i)=X)/\Hid (RSt m B b w1 L i (-1) (o++⟨5,0,text,j⟩::ns))/\Hid (Below B w w1)) \/
   (∃ (i jf:Nat) (o':List Nd),Hid (X = .no (L.drop jf))/\Hid (RSt m B b w1 L i jf o')/\Hid (Below B w w1)):=by
  cases h5:atT 5 (L.drop i0) with
  | true =>
    rw [h5,if_pos rfl] at hres;exact .inl ⟨0,[],i0+1,by omega,fun _=>rfl,by omega,Za (by rw [<- hX.out,h5,if_pos rfl,Qov,List.tail_drop]),Za hres,HB1⟩
  | false =>
    rw [h5,if_neg (by decide)] at hres;exact .inr ⟨i0,i0,_,Za (by rw [<- hX.out,h5,if_neg (by decide)]),Za hres,HB1⟩
 have HREL:Hid (∃ z,w1=z/\((∃ (j:Nat) (ns:List Nd) (i:Nat),j<=7/\(j=0->ns=[])/\L.length-i<=n/\Hid (Qfv sub text j ns (L.drop i)=X)/\Hid (RSt m B b z L i (-1) (o++⟨5,0,text,j⟩::ns))/\Hid (Below B w z)) \/
  (∃ (i jf:Nat) (o':List Nd),Hid (X = .no (L.drop jf))/\Hid (RSt m B b z L i jf o')/\Hid (Below B w z)))):=Za ⟨_,rfl,hrel⟩
 clear hb1 hres hrel HTK HB1;go_wp2_with fail;go_loopw [49] (fun _ wr=>Hid ((∃ (j:Nat) (ns:List Nd) (i:Nat),j<=7/\(j=0->ns=[])/\L.length-i<=n/\Hid (Qfv sub text j ns (L.drop i)=X)/\Hid (RSt m B b wr L i (-1) (o++⟨5,0,text,j⟩::ns))/\Hid (Below B w wr)) \/
  (∃ (i jf:Nat) (o':List Nd),Hid (X = .no (L.drop jf))/\Hid (RSt m B b wr L i jf o')/\Hid (Below B w wr)))) (fun _ wr=>QhE wr b)
 case atStart =>
  obtain ⟨z,rfl,h⟩:=HREL.out;exact Za h
 case round =>
  clear HREL;rcases hrel.out with ⟨j,ns,i,hj,hns,hin,HXA,HP,HB⟩|⟨i,jf,o',HXF,HP,HB⟩
  ·clear hrel;obtain ⟨w3,rfl⟩:∃ y:World,y=wr:=⟨_,rfl⟩;have HLF:Hid (QhE w3 b=1+(L.length-i)):=Za (by rw [HP.out.left,if_neg (by omega)]);have HIX:=Za HP.out.ix;have HK:=Za (Qfs m (-1) B b i w3 L _ HP.out (by omega));obtain ⟨tv,nv,k1,k2,k3⟩:=HP.out.ex;obtain ⟨c0,c1,c2,c3⟩:=Qaa k1;clear k1 k2 k3;cases h6:atT 6 (L.drop i) with
   | true =>
     have hz:=QiH 6 (by decide) (L.drop i) true h6;have HX2:Hid (X = .ok (L.drop (i+1)) (⟨5,0,text,j⟩::ns)):=Za (by rw [<- HXA.out];unfold Qfv;rw [if_pos h6,List.tail_drop]);have HTY:=Za (fun q=>Qk2 m 6 B b i (w3.drewN q) L _ (HP.out.below (below_drewN Zb q)) (by omega) (by decide) h6);generalize QeN (L.drop i)=z at *;clear h6 HXA;go_wp2_with fail;((with_reducible refine HK.out.mono ?_));rintro e w4 ⟨rfl,q,rfl⟩;go_wp2_with fail;((with_reducible refine (HTY.out q).mono ?_));rintro e w5 ⟨rfl,hp5,hb5⟩;have HP5:=Za hp5;have HB5:Hid (Below B w w5):=Za ((below_drewN HB.out q).trans hb5);clear hp5 hb5;go_wp2_with fail;go_end0;rw [HX2.out];exact ⟨rfl,HB5.out,_,rfl,HP5.out⟩
   | false =>
     have hz:=QiH 6 (by decide) (L.drop i) false h6;have HXN:Hid (X=if j=0 then Qgr sub text 7 0 ns (L.drop i) else if j=7\/atT 9 (L.drop i)=false then .no (L.drop i) else Qgr sub text (7-j) j ns (L.drop i).tail):=Za (by rw [<- HXA.out];unfold Qfv;rw [if_neg (by rw [h6];decide)]);generalize QeN (L.drop i)=z at *;clear h6 HXA;go_wp2_with fail;((with_reducible refine HK.out.mono ?_));rintro e w4 ⟨rfl,q,rfl⟩;have HP4:Hid (RSt m B b (w3.drewN q) L i (-1) (o++⟨5,0,text,j⟩::ns)):=Za (HP.out.below (below_drewN Zb q));have HB4:Hid (Below B w (w3.drewN q)):=Za (below_drewN HB.out q);clear c0 c1 c2 c3 HP HB HK;generalize w3.drewN q=W4 at *;obtain ⟨tv,g,c,k1,k2,k3,k4⟩:=HP4.out.kids;obtain ⟨c0,c1,c2,c3⟩:=Qaa k1;obtain ⟨LL,hLL⟩:∃ z,(o++(⟨5,0,text,j⟩:Nd)::ns).length=z:=⟨_,rfl⟩;have hLo:o.length<LL:=by rw [<- hLL];simp
     have hLo':(o.length:Int)<(LL:Int):=by omega
     rw [hLL] at c2;clear k1 k4 k3 hLL;by_cases h0:j=0
     ·have hj0:¬ (0:Int)<(j:Int):=by omega
      have HXS:Hid (X=match sub 101 (L.drop i) with|.no x=>.no x|.ok r1 n1=>Qfv sub text (j+1) (ns++n1) r1):=Za (by rw [HXN.out,if_pos h0];have:=Qli sub text j (by omega) ns (L.drop i);rw [h0] at this |-;exact this);clear HXN h0 c0 c1 c2 c3 hLo hLo' k2;obtain ⟨tv,g,c,k1,k2,k3,k4⟩:=HP4.out.kids;have HU:=Za (k4 ((j:Int)+1));obtain ⟨c0,c1,c2,c3⟩:=Qaa k1;obtain ⟨LL,hLL⟩:∃ z,(o++(⟨5,0,text,j⟩:Nd)::ns).length=z:=⟨_,rfl⟩;have hLo:o.length<LL:=by rw [<- hLL];simp
      have hLo':(o.length:Int)<(LL:Int):=by omega
      rw [hLL] at c2;clear k1 k4 hLL;go_upto_region 7 with fail;have HP5:=Za HU.out.1;have HB5:Hid (Below B w (W4.setCell ⟨g,o.length * 4+3,none⟩ (.int .i64 ((j:Int)+1)))):=Za (HB4.out.trans HU.out.2);generalize W4.setCell ⟨g,o.length * 4+3,none⟩ (.int .i64 ((j:Int)+1))=W5 at *;clear c0 c1 c2 c3 k2 k3 HU hLo hLo';have HSUB:Hid (Calls Tryz.prog 98 #[.pointer (some ⟨b,0,none⟩),.int .u8 101] W5 (QhF m B b L W5 (o++⟨5,0,text,(j:Int)+1⟩::ns) (sub 101 (L.drop i)))):=Za (HS.out 101 i _ W5 HP5.out (by omega));have hgood:=HGD.out 101 (L.drop i);cases hx:sub 101 (L.drop i) with
      | no x =>
        rw [hx] at HSUB HXS;have HX2:Hid (X = .no x):=HXS;clear hx hgood;go_wp2_with fail;((with_reducible refine HSUB.out.mono ?_));rintro e w6 ⟨rfl,hb6,i6,j6,o6,rfl,hp6⟩;have HB6:Hid (Below B w w6):=Za (HB5.out.trans hb6);have HP6:=Za hp6;clear hb6 hp6;go_wp2_with fail;go_roundw
        case rel=>refine Za ?_;exact .inr ⟨i6,j6,o6,HX2,HP6,HB6⟩
        case measure=>rw [HLF.out,HP6.out.left,if_pos (by omega)];omega
      | ok x n1 =>
        rw [hx] at HSUB HXS hgood;have HX2:Hid (Qfv sub text (j+1) (ns++n1) x=X):=Za HXS.out.symm;obtain ⟨d,hd1,hd2,hd3,hd4⟩:=hgood;have HGOOD:=Za hd3;clear hx hd3;go_wp2_with fail;((with_reducible refine HSUB.out.mono ?_));rintro e w6 ⟨rfl,hb6,i6,hi6,hp6⟩;have hlt:i<i6:=Qcv hp6.ix hi6 HGOOD.out hd1 hd2;subst hi6;rw [List.append_assoc,List.cons_append] at hp6;have HB6:Hid (Below B w w6):=Za (HB5.out.trans hb6);have HP6:Hid (RSt m B b w6 L i6 (-1) (o++⟨5,0,text,(j+1:Nat)⟩::(ns++n1))):=Za (by rw [show ((j+1:Nat):Int)=(j:Int)+1 by omega];exact hp6);clear hb6 hp6;go_wp2_with fail;go_roundw
        case rel=>refine Za ?_;exact .inl ⟨j+1,ns++n1,i6,by omega,fun h=>by omega,by omega,HX2,HP6,HB6⟩
        case measure=>rw [HLF.out,HP6.out.left,if_neg (by omega)];have:=HP6.out.ix;omega
     ·have hj0:(0:Int)<(j:Int):=by omega
      rw [if_neg h0] at HXN;by_cases h7:j=7
      ·have hj7:((j:Int)==7)=true:=by rw [beq_iff_eq];omega
       have HX2:Hid (X = .no (L.drop i)):=Za (by rw [HXN.out,if_pos (.inl h7)]);have HFN:=Za (Qiz m B b i W4 L _ HP4.out);clear HXN h7 h0;go_wp2_with fail;((with_reducible refine HFN.out.mono ?_));rintro e w5 ⟨rfl,hp5,hb5⟩;have HP5:=Za hp5;have HB5:Hid (Below B w w5):=Za (HB4.out.trans hb5);clear hp5 hb5;go_wp2_with fail;(try simp only [Exit.inBlock,Exit.then]);refine bodyPost_ret (results_none rfl _ _ _) rfl ?_;rw [HX2.out];exact ⟨rfl,HB5.out,_,_,_,rfl,HP5.out⟩
      ·have hj7:((j:Int)==7)=false:=by rw [beq_eq_false_iff_ne];omega
       have HTR:=Za (Qem m 9 B b i W4 L _ HP4.out (by omega) (by decide));cases h9:atT 9 (L.drop i) with
       | false =>
         have HX2:Hid (X = .no (L.drop i)):=Za (by rw [HXN.out,if_pos (.inr h9)]);clear HXN h0;go_wp2_with fail;((with_reducible refine HTR.out.mono ?_));rintro e w5 ⟨rfl,hb5,hres⟩;rw [h9,if_neg (by decide)] at hres;have HP9:=Za hres;have HB9:Hid (Below B w w5):=Za (HB4.out.trans hb5);clear hb5 hres c0 c1 c2 c3 hLo hLo' k2 h9;obtain ⟨tv,g,c,k1,k2,k3,k4⟩:=HP9.out.kids;have HU:=Za (k4 ((j:Int)+1));obtain ⟨c0,c1,c2,c3⟩:=Qaa k1;obtain ⟨LL,hLL⟩:∃ z,(o++(⟨5,0,text,j⟩:Nd)::ns).length=z:=⟨_,rfl⟩;have hLo:o.length<LL:=by rw [<- hLL];simp
         have hLo':(o.length:Int)<(LL:Int):=by omega
         rw [hLL] at c2;clear k1 k4 hLL;go_upto_region 7 with fail;have HP5:=Za HU.out.1;have HB5:Hid (Below B w (w5.setCell ⟨g,o.length * 4+3,none⟩ (.int .i64 ((j:Int)+1)))):=Za (HB9.out.trans HU.out.2);generalize w5.setCell ⟨g,o.length * 4+3,none⟩ (.int .i64 ((j:Int)+1))=W5 at *;clear c0 c1 c2 c3 k2 k3 HU hLo hLo';have HNO:Hid (Calls Tryz.prog 98 #[.pointer (some ⟨b,0,none⟩),.int .u8 101] W5 fun e w'=>e = .returned (.tuple #[])/\Below W5.heap.size W5 w'):=Za (Qlk m i B b i 101 W5 L _ HP5.out (by omega) (by omega));go_wp2_with fail;((with_reducible refine HNO.out.mono ?_));rintro e w6 ⟨rfl,hb6⟩;have HB6:Hid (Below B w w6):=Za (HB5.out.trans (hb6.mono HP5.out.size));have HP6:=Za (HP5.out.below hb6);clear hb6;go_wp2_with fail;go_roundw
         case rel=>refine Za ?_;exact .inr ⟨_,_,_,HX2,HP6,HB6⟩
         case measure=>rw [HLF.out,HP6.out.left,if_pos (by omega)];omega
       | true =>
         have HXS:Hid (X=match sub 101 (L.drop (i+1)) with|.no x=>.no x|.ok r1 n1=>Qfv sub text (j+1) (ns++n1) r1):=Za (by rw [HXN.out,if_neg (fun e=>by rcases e with e|e;exact h7 e;rw [h9] at e;cases e),List.tail_drop];exact Qli sub text j (by omega) ns _);clear HXN h0;go_wp2_with fail;((with_reducible refine HTR.out.mono ?_));rintro e w5 ⟨rfl,hb5,hres⟩;rw [h9,if_pos rfl] at hres;have HP9:=Za hres;have HB9:Hid (Below B w w5):=Za (HB4.out.trans hb5);clear hb5 hres c0 c1 c2 c3 hLo hLo' k2 h9;obtain ⟨tv,g,c,k1,k2,k3,k4⟩:=HP9.out.kids;have HU:=Za (k4 ((j:Int)+1));obtain ⟨c0,c1,c2,c3⟩:=Qaa k1;obtain ⟨LL,hLL⟩:∃ z,(o++(⟨5,0,text,j⟩:Nd)::ns).length=z:=⟨_,rfl⟩;have hLo:o.length<LL:=by rw [<- hLL];simp
         have hLo':(o.length:Int)<(LL:Int):=by omega
         rw [hLL] at c2;clear k1 k4 hLL;go_upto_region 7 with fail;have HP5:=Za HU.out.1;have HB5:Hid (Below B w (w5.setCell ⟨g,o.length * 4+3,none⟩ (.int .i64 ((j:Int)+1)))):=Za (HB9.out.trans HU.out.2);generalize w5.setCell ⟨g,o.length * 4+3,none⟩ (.int .i64 ((j:Int)+1))=W5 at *;clear c0 c1 c2 c3 k2 k3 HU hLo hLo';have HSUB:Hid (Calls Tryz.prog 98 #[.pointer (some ⟨b,0,none⟩),.int .u8 101] W5 (QhF m B b L W5 (o++⟨5,0,text,(j:Int)+1⟩::ns) (sub 101 (L.drop (i+1))))):=Za (HS.out 101 (i+1) _ W5 HP5.out (by omega));have hgood:=HGD.out 101 (L.drop (i+1));cases hx:sub 101 (L.drop (i+1)) with
         | no x =>
           rw [hx] at HSUB HXS;have HX2:Hid (X = .no x):=HXS;clear hx hgood;go_wp2_with fail;((with_reducible refine HSUB.out.mono ?_));rintro e w6 ⟨rfl,hb6,i6,j6,o6,rfl,hp6⟩;have HB6:Hid (Below B w w6):=Za (HB5.out.trans hb6);have HP6:=Za hp6;clear hb6 hp6;go_wp2_with fail;go_roundw
           case rel=>refine Za ?_;exact .inr ⟨i6,j6,o6,HX2,HP6,HB6⟩
           case measure=>rw [HLF.out,HP6.out.left,if_pos (by omega)];omega
         | ok x n1 =>
           rw [hx] at HSUB HXS hgood;have HX2:Hid (Qfv sub text (j+1) (ns++n1) x=X):=Za HXS.out.symm;obtain ⟨d,hd1,hd2,hd3,hd4⟩:=hgood;have HGOOD:=Za hd3;clear hx hd3;go_wp2_with fail;((with_reducible refine HSUB.out.mono ?_));rintro e w6 ⟨rfl,hb6,i6,hi6,hp6⟩;have hlt:(i+1)<i6:=Qcv hp6.ix hi6 HGOOD.out hd1 hd2;subst hi6;rw [List.append_assoc,List.cons_append] at hp6;have HB6:Hid (Below B w w6):=Za (HB5.out.trans hb6);have HP6:Hid (RSt m B b w6 L i6 (-1) (o++⟨5,0,text,(j+1:Nat)⟩::(ns++n1))):=Za (by rw [show ((j+1:Nat):Int)=(j:Int)+1 by omega];exact hp6);clear hb6 hp6;go_wp2_with fail;go_roundw
           case rel=>refine Za ?_;exact .inl ⟨j+1,ns++n1,i6,by omega,fun h=>by omega,by omega,HX2,HP6,HB6⟩
           case measure=>rw [HLF.out,HP6.out.left,if_neg (by omega)];have:=HP6.out.ix;omega
  ·clear hrel;obtain ⟨w3,rfl⟩:∃ y:World,y=wr:=⟨_,rfl⟩;have HTO:=Za (QiA m jf 6 B b i w3 L o' HP.out (by omega));obtain ⟨tv,nv,k1,k2,k3⟩:=HP.out.ex;obtain ⟨c0,c1,c2,c3⟩:=Qaa k1;have hF2:¬ (jf:Int)<0:=by omega
   clear k1 k2 k3;go_wp2_with fail;((with_reducible refine HTO.out.mono ?_));rintro e w5 ⟨rfl,rfl⟩;go_wp2_with fail;go_end0;rw [HXF.out];exact ⟨rfl,HB.out,_,_,_,rfl,HP.out⟩
end
section
open Go.RowKit
attribute [local go_sem] ByteArray.mk_append_mk Qac Qad Qae
theorem Qow (sub:UInt8->List TokI->PR) (k:UInt8) (f m:Nat) (ns:List Nd) (r:List TokI) (h8:atT 8 r=false):Qb6 sub k (f+1) m ns r=if Qgq k=true/\0<m/\atT 9 r=false then .no r
  else match sub k (if Qgq k=true/\0<m then r.tail else r) with
   | .no x=>.no x
   | .ok r1 n1=>Qb6 sub k f (m+1) (ns++n1) r1:=by
 rw [Qb6,if_neg (by rw [h8];decide)]<;>rfl
set_option maxRecDepth 100000 in
theorem Qll (m:Int) (B b:Nat) (L:List TokI) (sub:UInt8->List TokI->PR) (n:Nat) (hs:Qr1 m B b L sub n) (hg:∀ k r,PGood1 r (sub k r)) (hL:L.length<=100000) (kd:UInt8) (i0:Nat) (o:List Nd) (w:World)
  (h:RSt m B b w L i0 (-1) o) (hn:L.length-i0<=n+1) :
  Calls Tryz.prog 145 #[.pointer (some ⟨b,0,none⟩),.int .u8 kd.toNat] w (QhF m B b L w o (QbC sub kd (L.drop i0))):=by
 have HS:=Za hs;have HGD:=Za hg;have HTK:=Za (Qem m 7 B b i0 w L _ h (by omega) (by decide));obtain ⟨X,hX⟩:∃ X,Hid (QbC sub kd (L.drop i0)=X):=⟨_,Za rfl⟩;rw [hX.out];have hol0:o.length<=i0:=by
  have:=h.ol;omega
 have hix0:=h.ix;clear hs hg h;go_enter Tryz.func145,Tryz.ntmps145;go_wp2_with fail;((with_reducible refine HTK.out.mono ?_));rintro e w1 ⟨rfl,hb1,hres⟩;have HB1:=Za hb1;have hst:∃ i F:Int,∃ i1:Nat,i=i1/\RSt m B b w1 L i1 F o/\(o.length:Int)<=i1+F /\
   ((F = -1/\L.length-i1<=n/\i1<=L.length/\Hid (Qb6 sub kd ((L.drop i1).length+1) 0 [] (L.drop i1)=X))\/(∃ jf:Nat,F=jf/\Hid (X = .no (L.drop jf)))):=by
  cases h7:atT 7 (L.drop i0) with
  | true =>
    rw [h7,if_pos rfl] at hres;refine ⟨_,-1,i0+1,rfl,hres,by omega,.inl ⟨rfl,by omega,hres.ix,Za ?_⟩⟩;rw [<- hX.out];unfold QbC;rw [if_pos h7,List.tail_drop];have hl:=hres.ix;rw [show (L.drop i0).length=(L.drop (i0+1)).length+1 by rw [List.length_drop,List.length_drop];omega]
  | false =>
    rw [h7,if_neg (by decide)] at hres;exact ⟨_,i0,i0,rfl,hres,by omega,.inr ⟨i0,rfl,Za (by rw [<- hX.out];unfold QbC;rw [if_neg (by rw [h7];decide)])⟩⟩
 obtain ⟨_,F,i1,_,hp1,hof,hcase⟩:=hst;have HCASE:=Za hcase;have HA:=Za (Qu5 m F B b i1 4 0 0 [] w1 L o hp1 (by omega) hof);unfold QbB at HA;clear hb1 hres hcase hp1 hof HTK;go_wp2_with fail;((with_reducible refine HA.out.mono ?_));rintro e w2 ⟨rfl,hp2,hb2⟩;have HB2:Hid (Below B w w2):=Za (HB1.out.trans hb2);have hrel:(∃ (j:Nat) (ns:List Nd) (i f:Nat),j<=i/\(L.drop i).length+1<=f/\L.length-i<=n/\Hid (Qb6 sub kd f j ns (L.drop i)=X)/\Hid (RSt m B b w2 L i (-1) (o++⟨4,0,[],j⟩::ns))/\Hid (Below B w w2)) \/
   (∃ (i jf:Nat) (o':List Nd),Hid (X = .no (L.drop jf))/\Hid (RSt m B b w2 L i jf o')/\Hid (Below B w w2)):=by
  rcases HCASE.out with ⟨rfl,h1,h2,h3⟩|⟨jf,rfl,h3⟩
  ·exact .inl ⟨0,[],i1,_,by omega,Nat.le_refl _,h1,h3,Za hp2,HB2⟩
  ·exact .inr ⟨i1,jf,_,h3,Za hp2,HB2⟩
 have HREL:Hid (∃ z,w2=z/\((∃ (j:Nat) (ns:List Nd) (i f:Nat),j<=i/\(L.drop i).length+1<=f/\L.length-i<=n/\Hid (Qb6 sub kd f j ns (L.drop i)=X)/\Hid (RSt m B b z L i (-1) (o++⟨4,0,[],j⟩::ns))/\Hid (Below B w z)) \/
  (∃ (i jf:Nat) (o':List Nd),Hid (X = .no (L.drop jf))/\Hid (RSt m B b z L i jf o')/\Hid (Below B w z)))):=Za ⟨_,rfl,hrel⟩
 clear hb2 hp2 hrel HA HB1 HB2 HCASE;go_wp2_with fail;go_loopw [49] (fun _ wr=>Hid ((∃ (j:Nat) (ns:List Nd) (i f:Nat),j<=i/\(L.drop i).length+1<=f/\L.length-i<=n/\Hid (Qb6 sub kd f j ns (L.drop i)=X)/\Hid (RSt m B b wr L i (-1) (o++⟨4,0,[],j⟩::ns))/\Hid (Below B w wr)) \/
  (∃ (i jf:Nat) (o':List Nd),Hid (X = .no (L.drop jf))/\Hid (RSt m B b wr L i jf o')/\Hid (Below B w wr)))) (fun _ wr=>QhE wr b)
 case atStart =>
  obtain ⟨z,rfl,h⟩:=HREL.out;exact Za h
 case round =>
  clear HREL;rcases hrel.out with ⟨j,ns,i,f,hj,hfl,hin,HXA,HP,HB⟩|⟨i,jf,o',HXF,HP,HB⟩
  ·clear hrel;obtain ⟨w3,rfl⟩:∃ y:World,y=wr:=⟨_,rfl⟩;have HLF:Hid (QhE w3 b=1+(L.length-i)):=Za (by rw [HP.out.left,if_neg (by omega)]);have hix:=HP.out.ix;have HIX:=Za hix;have HK:=Za (Qfs m (-1) B b i w3 L _ HP.out (by omega));obtain ⟨f,rfl⟩:∃ z,f=z+1:=⟨f-1,by omega⟩;have HFL:=Za hfl;obtain ⟨tv,nv,k1,k2,k3⟩:=HP.out.ex;obtain ⟨c0,c1,c2,c3⟩:=Qaa k1;clear k1 k2 k3 hfl;cases h8:atT 8 (L.drop i) with
   | true =>
     have hz:=QiH 8 (by decide) (L.drop i) true h8;have HX2:Hid (X = .ok (L.drop (i+1)) (⟨4,0,[],j⟩::ns)):=Za (by rw [<- HXA.out];rw [Qb6,if_pos h8,List.tail_drop]);have HTY:=Za (fun q=>Qk2 m 8 B b i (w3.drewN q) L _ (HP.out.below (below_drewN Zb q)) (by omega) (by decide) h8);generalize QeN (L.drop i)=z at *;clear h8 HXA;go_wp2_with fail;((with_reducible refine HK.out.mono ?_));rintro e w4 ⟨rfl,q,rfl⟩;go_wp2_with fail;((with_reducible refine (HTY.out q).mono ?_));rintro e w5 ⟨rfl,hp5,hb5⟩;have HP5:=Za hp5;have HB5:Hid (Below B w w5):=Za ((below_drewN HB.out q).trans hb5);clear hp5 hb5;go_wp2_with fail;go_end0;rw [HX2.out];exact ⟨rfl,HB5.out,_,rfl,HP5.out⟩
   | false =>
     have hz:=QiH 8 (by decide) (L.drop i) false h8;have HXN:Hid (X=if Qgq kd=true/\0<j/\atT 9 (L.drop i)=false then .no (L.drop i)
      else match sub kd (if Qgq kd=true/\0<j then (L.drop i).tail else L.drop i) with
       | .no x=>.no x
       | .ok r1 n1=>Qb6 sub kd f (j+1) (ns++n1) r1):=Za (by rw [<- HXA.out,Qow sub kd f j ns _ h8])
     generalize QeN (L.drop i)=z at *;clear h8 HXA;go_wp2_with fail;((with_reducible refine HK.out.mono ?_));rintro e w4 ⟨rfl,q,rfl⟩;have HP4:Hid (RSt m B b (w3.drewN q) L i (-1) (o++⟨4,0,[],j⟩::ns)):=Za (HP.out.below (below_drewN Zb q));have HB4:Hid (Below B w (w3.drewN q)):=Za (below_drewN HB.out q);clear c0 c1 c2 c3 HP HB HK;go_upto_region 3 with fail;generalize w3.drewN q=W4 at *;obtain ⟨lb,hlb⟩:∃ z,Qgq kd=z:=⟨_,rfl⟩;rw [hlb] at HXN;go_cut [36] (fun z wx=>z = .bool (lb&&decide (0<j))/\W4=wx)
     case first =>
      have k73:=Qao kd 73;have k80:=Qao kd 80;obtain ⟨b73,hb73⟩:∃ z,(kd==73)=z:=⟨_,rfl⟩;obtain ⟨b80,hb80⟩:∃ z,(kd==80)=z:=⟨_,rfl⟩;unfold Qgq at hlb;rw [hb73] at k73 hlb;rw [hb80] at k80 hlb;have k73':((kd.toNat:Int)==73)=b73:=k73;have k80':((kd.toNat:Int)==80)=b80:=k80;clear k73 k80 hb73 hb80;obtain ⟨tv,g,c,k1,k2,k3,k4⟩:=HP4.out.kids;obtain ⟨c0,c1,c2,c3⟩:=Qaa k1;obtain ⟨LL,hLL⟩:∃ z,(o++(⟨4,0,[],j⟩:Nd)::ns).length=z:=⟨_,rfl⟩;have hLo:o.length<LL:=by rw [<- hLL];simp
      have hLo':(o.length:Int)<(LL:Int):=by omega
      rw [hLL] at c2;clear k1 k4 k3 hLL;subst hlb;cases b73
      ·cases b80
       ·go_wp2_with fail;go_meet;exact ⟨by simp,rfl⟩
       ·go_wp2_with fail;go_meet;exact ⟨by simp,rfl⟩
      ·go_wp2_with fail;go_meet;exact ⟨by simp,rfl⟩
     case rest =>
     obtain ⟨rfl,rfl⟩:=hcut;obtain ⟨W4,rfl⟩:∃ y:World,y=W4:=⟨_,rfl⟩;obtain ⟨cb,hcb⟩:∃ z,(lb&&decide (0<j))=z:=⟨_,rfl⟩;rw [hcb];have hcb2:(lb=true/\0<j)↔cb=true:=by rw [<- hcb];simp
     have HCB:=Za hcb2;clear hcb hlb hcb2;cases cb with
     | false =>
       have HXS:Hid (X=match sub kd (L.drop i) with|.no x=>.no x|.ok r1 n1=>Qb6 sub kd f (j+1) (ns++n1) r1):=Za (by rw [HXN.out,if_neg (fun e=>absurd (HCB.out.1 ⟨e.1,e.2.1⟩) (by decide)),if_neg (fun e=>absurd (HCB.out.1 e) (by decide))]);clear HXN;obtain ⟨tv,g,c,k1,k2,k3,k4⟩:=HP4.out.kids;have HU:=Za (k4 ((j:Int)+1));obtain ⟨c0,c1,c2,c3⟩:=Qaa k1;obtain ⟨LL,hLL⟩:∃ z,(o++(⟨4,0,[],j⟩:Nd)::ns).length=z:=⟨_,rfl⟩;have hLo:o.length<LL:=by rw [<- hLL];simp
       have hLo':(o.length:Int)<(LL:Int):=by omega
       rw [hLL] at c2;clear k1 k4 hLL;go_upto_region 6 with fail;have HP5:=Za HU.out.1;have HB5:Hid (Below B w (W4.setCell ⟨g,o.length * 4+3,none⟩ (.int .i64 ((j:Int)+1)))):=Za (HB4.out.trans HU.out.2);generalize W4.setCell ⟨g,o.length * 4+3,none⟩ (.int .i64 ((j:Int)+1))=W5 at *;clear c0 c1 c2 c3 k2 k3 HU hLo hLo';have HSUB:=Za (HS.out kd i _ W5 HP5.out (by omega));have hgood:=HGD.out kd (L.drop i);cases hx:sub kd (L.drop i) with
       | no x =>
         rw [hx] at HSUB HXS;have HX2:Hid (X = .no x):=HXS;clear hx hgood;go_wp2_with fail;((with_reducible refine HSUB.out.mono ?_));rintro e w6 ⟨rfl,hb6,i6,j6,o6,rfl,hp6⟩;have HB6:Hid (Below B w w6):=Za (HB5.out.trans hb6);have HP6:=Za hp6;clear hb6 hp6;go_wp2_with fail;go_roundw
         case rel=>refine Za ?_;exact .inr ⟨i6,j6,o6,HX2,HP6,HB6⟩
         case measure=>rw [HLF.out,HP6.out.left,if_pos (by omega)];omega
       | ok x n1 =>
         rw [hx] at HSUB HXS hgood;have HX2:Hid (Qb6 sub kd f (j+1) (ns++n1) x=X):=Za HXS.out.symm;obtain ⟨d,hd1,hd2,hd3,hd4⟩:=hgood;have HGOOD:=Za hd3;clear hx hd3;go_wp2_with fail;((with_reducible refine HSUB.out.mono ?_));rintro e w6 ⟨rfl,hb6,i6,hi6,hp6⟩;have hlt:i<i6:=Qcv hp6.ix hi6 HGOOD.out hd1 hd2;have hix6:=hp6.ix;subst hi6;rw [List.append_assoc,List.cons_append] at hp6;have HB6:Hid (Below B w w6):=Za (HB5.out.trans hb6);have HP6:Hid (RSt m B b w6 L i6 (-1) (o++⟨4,0,[],(j+1:Nat)⟩::(ns++n1))):=Za (by rw [show ((j+1:Nat):Int)=(j:Int)+1 by omega];exact hp6);have hfl6:(L.drop i6).length+1<=f:=by have:=HFL.out;rw [List.length_drop] at this |-;omega
         clear hb6 hp6;go_wp2_with fail;go_roundw
         case rel=>refine Za ?_;exact .inl ⟨j+1,ns++n1,i6,f,by omega,hfl6,by omega,HX2,HP6,HB6⟩
         case measure=>rw [HLF.out,HP6.out.left,if_neg (by omega)];omega
     | true =>
       have hcd:=HCB.out.2 rfl;have HTR:=Za (Qem m 9 B b i W4 L _ HP4.out (by omega) (by decide));cases h9:atT 9 (L.drop i) with
       | false =>
         have HX2:Hid (X = .no (L.drop i)):=Za (by rw [HXN.out,if_pos ⟨hcd.1,hcd.2,h9⟩]);clear HXN hcd;go_wp2_with fail;((with_reducible refine HTR.out.mono ?_));rintro e w5 ⟨rfl,hb5,hres⟩;rw [h9,if_neg (by decide)] at hres;have HP9:=Za hres;have HB9:Hid (Below B w w5):=Za (HB4.out.trans hb5);clear hb5 hres h9;obtain ⟨tv,g,c,k1,k2,k3,k4⟩:=HP9.out.kids;have HU:=Za (k4 ((j:Int)+1));obtain ⟨c0,c1,c2,c3⟩:=Qaa k1;obtain ⟨LL,hLL⟩:∃ z,(o++(⟨4,0,[],j⟩:Nd)::ns).length=z:=⟨_,rfl⟩;have hLo:o.length<LL:=by rw [<- hLL];simp
         have hLo':(o.length:Int)<(LL:Int):=by omega
         rw [hLL] at c2;clear k1 k4 hLL;go_upto_region 6 with fail;have HP5:=Za HU.out.1;have HB5:Hid (Below B w (w5.setCell ⟨g,o.length * 4+3,none⟩ (.int .i64 ((j:Int)+1)))):=Za (HB9.out.trans HU.out.2);generalize w5.setCell ⟨g,o.length * 4+3,none⟩ (.int .i64 ((j:Int)+1))=W5 at *;clear c0 c1 c2 c3 k2 k3 HU hLo hLo';have HNO:=Za (Qlk m i B b i kd W5 L _ HP5.out (by omega) (by omega));go_wp2_with fail;((with_reducible refine HNO.out.mono ?_));rintro e w6 ⟨rfl,hb6⟩;have HB6:Hid (Below B w w6):=Za (HB5.out.trans (hb6.mono HP5.out.size));have HP6:=Za (HP5.out.below hb6);clear hb6;go_wp2_with fail;go_roundw
         case rel=>refine Za ?_;exact .inr ⟨_,_,_,HX2,HP6,HB6⟩
         case measure=>rw [HLF.out,HP6.out.left,if_pos (by omega)];omega
       | true =>
         have HXS:Hid (X=match sub kd (L.drop (i+1)) with|.no x=>.no x|.ok r1 n1=>Qb6 sub kd f (j+1) (ns++n1) r1):=Za (by rw [HXN.out,if_neg (fun e=>by rw [h9] at e;exact absurd e.2.2 (by decide)),if_pos hcd,List.tail_drop]);clear HXN hcd;go_wp2_with fail;((with_reducible refine HTR.out.mono ?_));rintro e w5 ⟨rfl,hb5,hres⟩;rw [h9,if_pos rfl] at hres;have HP9:=Za hres;have HB9:Hid (Below B w w5):=Za (HB4.out.trans hb5);clear hb5 hres h9;obtain ⟨tv,g,c,k1,k2,k3,k4⟩:=HP9.out.kids;have HU:=Za (k4 ((j:Int)+1));obtain ⟨c0,c1,c2,c3⟩:=Qaa k1;obtain ⟨LL,hLL⟩:∃ z,(o++(⟨4,0,[],j⟩:Nd)::ns).length=z:=⟨_,rfl⟩;have hLo:o.length<LL:=by rw [<- hLL];simp
         have hLo':(o.length:Int)<(LL:Int):=by omega
         rw [hLL] at c2;clear k1 k4 hLL;go_upto_region 6 with fail;have HP5:=Za HU.out.1;have HB5:Hid (Below B w (w5.setCell ⟨g,o.length * 4+3,none⟩ (.int .i64 ((j:Int)+1)))):=Za (HB9.out.trans HU.out.2);generalize w5.setCell ⟨g,o.length * 4+3,none⟩ (.int .i64 ((j:Int)+1))=W5 at *;clear c0 c1 c2 c3 k2 k3 HU hLo hLo';have HSUB:=Za (HS.out kd (i+1) _ W5 HP5.out (by omega));have hgood:=HGD.out kd (L.drop (i+1));cases hx:sub kd (L.drop (i+1)) with
         | no x =>
           rw [hx] at HSUB HXS;have HX2:Hid (X = .no x):=HXS;clear hx hgood;go_wp2_with fail;((with_reducible refine HSUB.out.mono ?_));rintro e w6 ⟨rfl,hb6,i6,j6,o6,rfl,hp6⟩;have HB6:Hid (Below B w w6):=Za (HB5.out.trans hb6);have HP6:=Za hp6;clear hb6 hp6;go_wp2_with fail;go_roundw
           case rel=>refine Za ?_;exact .inr ⟨i6,j6,o6,HX2,HP6,HB6⟩
           case measure=>rw [HLF.out,HP6.out.left,if_pos (by omega)];omega
         | ok x n1 =>
           rw [hx] at HSUB HXS hgood;have HX2:Hid (Qb6 sub kd f (j+1) (ns++n1) x=X):=Za HXS.out.symm;obtain ⟨d,hd1,hd2,hd3,hd4⟩:=hgood;have HGOOD:=Za hd3;clear hx hd3;go_wp2_with fail;((with_reducible refine HSUB.out.mono ?_));rintro e w6 ⟨rfl,hb6,i6,hi6,hp6⟩;have hlt:(i+1)<i6:=Qcv hp6.ix hi6 HGOOD.out hd1 hd2;have hix6:=hp6.ix;subst hi6;rw [List.append_assoc,List.cons_append] at hp6;have HB6:Hid (Below B w w6):=Za (HB5.out.trans hb6);have HP6:Hid (RSt m B b w6 L i6 (-1) (o++⟨4,0,[],(j+1:Nat)⟩::(ns++n1))):=Za (by rw [show ((j+1:Nat):Int)=(j:Int)+1 by omega];exact hp6);have hfl6:(L.drop i6).length+1<=f:=by have:=HFL.out;rw [List.length_drop] at this |-;omega
           clear hb6 hp6;go_wp2_with fail;go_roundw
           case rel=>refine Za ?_;exact .inl ⟨j+1,ns++n1,i6,f,by omega,hfl6,by omega,HX2,HP6,HB6⟩
           case measure=>rw [HLF.out,HP6.out.left,if_neg (by omega)];omega
  ·clear hrel;obtain ⟨w3,rfl⟩:∃ y:World,y=wr:=⟨_,rfl⟩;have HTO:=Za (QiA m jf 8 B b i w3 L o' HP.out (by omega));obtain ⟨tv,nv,k1,k2,k3⟩:=HP.out.ex;obtain ⟨c0,c1,c2,c3⟩:=Qaa k1;have hF2:¬ (jf:Int)<0:=by omega
   clear k1 k2 k3;go_wp2_with fail;((with_reducible refine HTO.out.mono ?_));rintro e w5 ⟨rfl,rfl⟩;go_wp2_with fail;go_end0;rw [HXF.out];exact ⟨rfl,HB.out,_,_,_,rfl,HP.out⟩
end
section
open Go.RowKit
attribute [local go_sem] ByteArray.mk_append_mk Qac Qad Qae
section
variable (sub:UInt8->List TokI->PR)
def QdP (kinds:List UInt8) (a j:Nat) (ns:List Nd) (r:List TokI):PR :=
 match QcZ sub (kinds.drop j) (j==0) ns r with
 | .no x=>.no x
 | .ok r1 n1=>Qc0 sub (kinds.drop a) n1 r1
theorem Qox {kinds:List UInt8} {a:Nat} (hk:Qc4 kinds a) (hne:kinds≠[]) (r:List TokI):Qca sub kinds r=if atT 5 r=false then .no r else QdP sub kinds a 0 [] r.tail:=by
 unfold Qca QdP;rw [if_neg hne,List.drop_zero,QkX kinds a hk.1 hk.2.1];by_cases h5:atT 5 r=false
 ·rw [if_pos h5,if_pos h5]
 ·rw [if_neg h5,if_neg h5];rw [show ((0:Nat)==0)=true from rfl];cases QcZ sub kinds true [] r.tail<;>rfl
theorem Qr3 {kinds:List UInt8} {a j:Nat} (hk:Qc4 kinds a) (h:j<a) (hj:j<kinds.length) (ns:List Nd) (q:List TokI) :
  QdP sub kinds a j ns q=if j≠0/\atT 9 q=false then .no q else match sub kinds[j] (if j=0 then q else q.tail) with
   | .no x=>.no x
   | .ok r1 n1=>QdP sub kinds a (j+1) (ns++n1) r1:=by
 unfold QdP;rw [QrJ sub hk h hj];by_cases h0:j=0
 ·rw [show (j==0)=true by rw [h0];rfl,if_neg (fun e=>by cases e.1),if_neg (by decide),if_neg (fun e=>e.1 h0),if_pos h0];cases sub kinds[j] q with
  | no x=>rfl
  | ok r1 n1=>simp only [];rw [show (j+1==0)=false from rfl]
 ·have e:(j==0)=false:=Zd h0;rw [e];by_cases h9:atT 9 q=false
  ·rw [if_pos ⟨rfl,h9⟩,if_pos ⟨h0,h9⟩]
  ·rw [if_neg (fun e=>h9 e.2),if_pos rfl,if_neg (fun e=>h9 e.2),if_neg h0];cases sub kinds[j] q.tail with
   | no x=>rfl
   | ok r1 n1=>simp only [];rw [show (j+1==0)=false from rfl]
theorem Qr4 {kinds:List UInt8} {a:Nat} (hk:Qc4 kinds a) (ha:0<a) (ns:List Nd) (q:List TokI):QdP sub kinds a a ns q=if atT 6 q=true then Qc0 sub (kinds.drop a) ns q.tail else .no q:=by
 unfold QdP;rw [show (a==0)=false from Zd (by omega),Qte sub hk];by_cases h6:atT 6 q=true
 ·rw [if_pos h6,if_pos h6]
 ·rw [if_neg h6,if_neg h6]
theorem QpZ {kinds:List UInt8} {j:Nat} (hj:j<kinds.length) (ns:List Nd) (q:List TokI) :
  Qc0 sub (kinds.drop j) ns q=match QbC sub kinds[j] q with
   | .no x=>.no x
   | .ok r1 n1=>Qc0 sub (kinds.drop (j+1)) (ns++n1) r1:=by
 rw [List.drop_eq_getElem_cons hj,Qc0]<;>rfl
end
set_option maxRecDepth 100000 in
theorem QeX (m:Int) (B b:Nat) (L:List TokI) (sub:UInt8->List TokI->PR) (n:Nat) (hs:Qr1 m B b L sub n) (hg:∀ k r,PGood1 r (sub k r)) (hL:L.length<=100000)
  (kinds:List UInt8) (a:Nat) (hk:Qc4 kinds a) (hne:kinds≠[]) (hkr:∀ k∈kinds,Qhv k=QaQ k) (op num p:Int) (str:List UInt8) (i0:Nat) (o:List Nd) (w:World)
  (h:RSt m B b w L i0 (-1) (o++⟨op,num,str,p⟩::[])) (hn:L.length-i0<=n) :
  Calls Tryz.prog 144 #[.pointer (some ⟨b,0,none⟩),.int .i64 o.length,.string ⟨kinds.toArray⟩] w (QhF m B b L w o (QeL ⟨op,num,str,(kinds.length:Nat)⟩ (Qca sub kinds (L.drop i0)))):=by
 have HS:=Za hs;have HGD:=Za hg;have HK:=Za hk;have HKR:=Za hkr;have hk10:=hk.2.2.2;have ha0:0<a:=by
  rcases hk.2.2.1 with e|e
  ·exact absurd e hne
  ·exact e
 have haN:=hk.1;obtain ⟨Z,hZ⟩:∃ Z,Hid (Qca sub kinds (L.drop i0)=Z):=⟨_,Za rfl⟩;have HZ0:Hid (Z=if atT 5 (L.drop i0)=false then .no (L.drop i0) else QdP sub kinds a 0 [] (L.drop i0).tail):=Za (by rw [<- hZ.out,Qox sub hk hne]);rw [hZ.out];obtain ⟨N,hN⟩:∃ N,kinds.length=N:=⟨_,rfl⟩;rw [hN];rw [hN] at hk10 haN;have HN:=Za hN;have hol0:o.length<=200000:=by
  have:=h.ol;have:=h.ix;simp only [List.length_append,List.length_cons] at *;omega
 obtain ⟨tv,g,c,k1,k2,k3,k4⟩:=h.kids;have HU:=Za (k4 (N:Int));obtain ⟨c0,c1,c2,c3⟩:=Qaa k1;obtain ⟨LL,hLL⟩:∃ z,(o++(⟨op,num,str,p⟩:Nd)::[]).length=z:=⟨_,rfl⟩;have hLo:o.length<LL:=by rw [<- hLL];simp
 have hLo':(o.length:Int)<(LL:Int):=by omega
 rw [hLL] at c2;clear h k1 k4 hLL hs hg hk hkr hne hZ;go_enter Tryz.func144,Tryz.ntmps144;go_upto_region 1 with fail;(try simp only [hN]);have HP1:=Za HU.out.1;have HB1:=Za HU.out.2;generalize w.setCell ⟨g,o.length * 4+3,none⟩ (.int .i64 (N:Int))=W1 at *;clear c0 c1 c2 c3 k2 k3 HU hLo hLo';have HTK:=Za (Qem m 5 B b i0 W1 L _ HP1.out (by omega) (by decide));go_wp2_with fail;((with_reducible refine HTK.out.mono ?_));rintro e w2 ⟨rfl,hb2,hres⟩;have HB2:Hid (Below B w w2):=Za (HB1.out.trans hb2);have HREL:Hid (∃ z,w2=z/\((∃ (ns:List Nd) (i:Nat),0<=a/\(0=0->ns=[])/\L.length-i<=n/\Hid (QdP sub kinds a 0 ns (L.drop i)=Z)/\Hid (RSt m B b z L i (-1) (o++⟨op,num,str,(N:Nat)⟩::ns))/\Hid (Below B w z))\/(∃ (i jf:Nat) (o':List Nd),Hid (Z = .no (L.drop jf))/\Hid (RSt m B b z L i jf o')/\Hid (Below B w z)))):=Za (by
  refine ⟨_,rfl,?_⟩;cases h5:atT 5 (L.drop i0) with
  | true =>
    rw [h5,if_pos rfl] at hres;exact .inl ⟨[],i0+1,Nat.zero_le _,fun _=>rfl,by omega,Za (by rw [HZ0.out,h5,if_neg (by decide),List.tail_drop]),Za hres,HB2⟩
  | false =>
    rw [h5,if_neg (by decide)] at hres;exact .inr ⟨i0,i0,_,Za (by rw [HZ0.out,h5,if_pos rfl]),Za hres,HB2⟩)
 clear hb2 hres HTK HB2 HB1 HP1;go_upto_block 0 with fail;go_cut [6] (fun x wx=>∃ j:Nat,x = .int .i64 j/\j<=N/\Hid ((j=a/\((∃ (ns:List Nd) (i:Nat),j<=a/\(j=0->ns=[])/\L.length-i<=n/\Hid (QdP sub kinds a j ns (L.drop i)=Z)/\Hid (RSt m B b wx L i (-1) (o++⟨op,num,str,(N:Nat)⟩::ns))/\Hid (Below B w wx))\/(∃ (i jf:Nat) (o':List Nd),Hid (Z = .no (L.drop jf))/\Hid (RSt m B b wx L i jf o')/\Hid (Below B w wx))))\/(∃ (i jf:Nat) (o':List Nd),Hid (Z = .no (L.drop jf))/\Hid (RSt m B b wx L i jf o')/\Hid (Below B w wx))))
 case first =>
  go_wp2_with fail;go_loopw [6] (fun x wr=>∃ j:Nat,x = .int .i64 j/\j<=N/\Hid ((∃ (ns:List Nd) (i:Nat),j<=a/\(j=0->ns=[])/\L.length-i<=n/\Hid (QdP sub kinds a j ns (L.drop i)=Z)/\Hid (RSt m B b wr L i (-1) (o++⟨op,num,str,(N:Nat)⟩::ns))/\Hid (Below B w wr))\/(∃ (i jf:Nat) (o':List Nd),Hid (Z = .no (L.drop jf))/\Hid (RSt m B b wr L i jf o')/\Hid (Below B w wr)))) (fun _ wr=>QhE wr b)
  case atStart =>
   obtain ⟨z,rfl,h⟩:=HREL.out;exact ⟨0,rfl,by omega,Za (by simpa using h)⟩
  case round =>
   clear HREL;obtain ⟨j,rfl,hjN,hrel⟩:=hrel;rcases hrel.out with ⟨ns,i,hja,hns,hin,HXA,HP,HB⟩|⟨i,jf,o',HXF,HP,HB⟩
   ·clear hrel;obtain ⟨w3,rfl⟩:∃ y:World,y=wr:=⟨_,rfl⟩;have HLF:Hid (QhE w3 b=1+(L.length-i)):=Za (by rw [HP.out.left,if_neg (by omega)]);have hix:=HP.out.ix;go_upto_region 3 with fail;go_cut [35] (fun z wx=>z = .bool (decide (j<a))/\w3=wx)
    case first =>
     obtain ⟨tv,nv,k1,k2,k3⟩:=HP.out.ex;obtain ⟨c0,c1,c2,c3⟩:=Qaa k1;clear k1 k2 k3;by_cases hlt:j<N
     ·have hlt':(j:Int)<(N:Int):=by omega
      have hjk:j<kinds.length:=by rw [HN.out];exact hlt
      obtain ⟨kj,hkj⟩:∃ x,kinds[j]=x:=⟨_,rfl⟩;have HBK:Hid (Qhv kj=decide (a<=j)):=Za (by rw [<- hkj,HKR.out _ (List.getElem_mem hjk)];exact HK.out.2.1 j hjk);by_cases hlta:j<a
      ·have HI:=Za (fun w=>Qhf kj false (Za (by rw [HBK.out];simp;omega)) w);clear HBK;go_wp2_with fail;((with_reducible refine (HI.out _).mono ?_));rintro e w4 ⟨rfl,rfl⟩;go_wp2_with fail;go_meet;exact ⟨by simp [hlta],rfl⟩
      ·have HI:=Za (fun w=>Qhf kj true (Za (by rw [HBK.out];simp;omega)) w);clear HBK;go_wp2_with fail;((with_reducible refine (HI.out _).mono ?_));rintro e w4 ⟨rfl,rfl⟩;go_wp2_with fail;go_meet;exact ⟨by simp [hlta],rfl⟩
     ·have hlt':¬ (j:Int)<(N:Int):=by omega
      have hlta:¬ j<a:=by omega
      go_wp2_with fail;go_meet;exact ⟨by simp [hlta],rfl⟩
    case rest =>
    obtain ⟨rfl,rfl⟩:=hcut;obtain ⟨w3,rfl⟩:∃ y:World,y=w3:=⟨_,rfl⟩;by_cases hlta:j<a
    ·have hdt:decide (j<a)=true:=decide_eq_true hlta;have hjk:j<kinds.length:=by rw [HN.out];omega
     have hjk':(j:Int)<(N:Int):=by omega
     obtain ⟨kj,hkj⟩:∃ x,kinds[j]=x:=⟨_,rfl⟩;have HX1:Hid (Z=if j≠0/\atT 9 (L.drop i)=false then .no (L.drop i) else match sub kj (if j=0 then L.drop i else (L.drop i).tail) with
      | .no x=>.no x
      | .ok r1 n1=>QdP sub kinds a (j+1) (ns++n1) r1):=Za (by rw [<- HXA.out,Qr3 sub HK.out hlta hjk,hkj])
     clear HXA;by_cases h0:j=0
     ·have hj0:¬ (0:Int)<(j:Int):=by omega
      have HXS:Hid (Z=match sub kj (L.drop i) with|.no x=>.no x|.ok r1 n1=>QdP sub kinds a (j+1) (ns++n1) r1):=Za (by rw [HX1.out,if_neg (fun e=>e.1 h0),if_pos h0]);clear HX1 h0;have HSUB:=Za (HS.out kj i _ w3 HP.out (by omega));have hgood:=HGD.out kj (L.drop i);cases hx:sub kj (L.drop i) with
      | no x =>
        rw [hx] at HSUB HXS;have HX2:Hid (Z = .no x):=HXS;clear hx hgood;go_wp2_with fail;((with_reducible refine HSUB.out.mono ?_));rintro e w6 ⟨rfl,hb6,i6,j6,o6,rfl,hp6⟩;have HB6:Hid (Below B w w6):=Za (HB.out.trans hb6);have HP6:=Za hp6;clear hb6 hp6;go_wp2_with fail;go_roundw
        case rel=>exact ⟨j+1,by go_num,by omega,Za (.inr ⟨i6,j6,o6,HX2,HP6,HB6⟩)⟩
        case measure=>rw [HLF.out,HP6.out.left,if_pos (by omega)];omega
      | ok x n1 =>
        rw [hx] at HSUB HXS hgood;have HX2:Hid (QdP sub kinds a (j+1) (ns++n1) x=Z):=Za HXS.out.symm;obtain ⟨d,hd1,hd2,hd3,hd4⟩:=hgood;have HGOOD:=Za hd3;clear hx hd3;go_wp2_with fail;((with_reducible refine HSUB.out.mono ?_));rintro e w6 ⟨rfl,hb6,i6,hi6,hp6⟩;have hlt6:i<i6:=Qcv hp6.ix hi6 HGOOD.out hd1 hd2;have hix6:=hp6.ix;subst hi6;rw [List.append_assoc,List.cons_append] at hp6;have HB6:Hid (Below B w w6):=Za (HB.out.trans hb6);have HP6:=Za hp6;clear hb6 hp6;go_wp2_with fail;go_roundw
        case rel=>exact ⟨j+1,by go_num,by omega,Za (.inl ⟨ns++n1,i6,by omega,fun h=>by omega,by omega,HX2,HP6,HB6⟩)⟩
        case measure=>rw [HLF.out,HP6.out.left,if_neg (by omega)];omega
     ·have hj0:(0:Int)<(j:Int):=by omega
      have HTR:=Za (Qem m 9 B b i w3 L _ HP.out (by omega) (by decide));cases h9:atT 9 (L.drop i) with
      | false =>
        have HX2:Hid (Z = .no (L.drop i)):=Za (by rw [HX1.out,if_pos ⟨h0,h9⟩]);clear HX1;go_wp2_with fail;((with_reducible refine HTR.out.mono ?_));rintro e w5 ⟨rfl,hb5,hres⟩;rw [h9,if_neg (by decide)] at hres;have HP5:=Za hres;have HB5:Hid (Below B w w5):=Za (HB.out.trans hb5);clear hb5 hres h9;have HNO:=Za (Qlk m i B b i kj w5 L _ HP5.out (by omega) (by omega));go_wp2_with fail;((with_reducible refine HNO.out.mono ?_));rintro e w6 ⟨rfl,hb6⟩;have HB6:Hid (Below B w w6):=Za (HB5.out.trans (hb6.mono HP5.out.size));have HP6:=Za (HP5.out.below hb6);clear hb6;go_wp2_with fail;go_roundw
        case rel=>exact ⟨j+1,by go_num,by omega,Za (.inr ⟨_,_,_,HX2,HP6,HB6⟩)⟩
        case measure=>rw [HLF.out,HP6.out.left,if_pos (by omega)];omega
      | true =>
        have HXS:Hid (Z=match sub kj (L.drop (i+1)) with|.no x=>.no x|.ok r1 n1=>QdP sub kinds a (j+1) (ns++n1) r1):=Za (by rw [HX1.out,if_neg (fun e=>by rw [h9] at e;exact absurd e.2 (by decide)),if_neg h0,List.tail_drop]);clear HX1;go_wp2_with fail;((with_reducible refine HTR.out.mono ?_));rintro e w5 ⟨rfl,hb5,hres⟩;rw [h9,if_pos rfl] at hres;have HP5:=Za hres;have HB5:Hid (Below B w w5):=Za (HB.out.trans hb5);clear hb5 hres h9;have HSUB:=Za (HS.out kj (i+1) _ w5 HP5.out (by omega));have hgood:=HGD.out kj (L.drop (i+1));cases hx:sub kj (L.drop (i+1)) with
        | no x =>
          rw [hx] at HSUB HXS;have HX2:Hid (Z = .no x):=HXS;clear hx hgood;go_wp2_with fail;((with_reducible refine HSUB.out.mono ?_));rintro e w6 ⟨rfl,hb6,i6,j6,o6,rfl,hp6⟩;have HB6:Hid (Below B w w6):=Za (HB5.out.trans hb6);have HP6:=Za hp6;clear hb6 hp6;go_wp2_with fail;go_roundw
          case rel=>exact ⟨j+1,by go_num,by omega,Za (.inr ⟨i6,j6,o6,HX2,HP6,HB6⟩)⟩
          case measure=>rw [HLF.out,HP6.out.left,if_pos (by omega)];omega
        | ok x n1 =>
          rw [hx] at HSUB HXS hgood;have HX2:Hid (QdP sub kinds a (j+1) (ns++n1) x=Z):=Za HXS.out.symm;obtain ⟨d,hd1,hd2,hd3,hd4⟩:=hgood;have HGOOD:=Za hd3;clear hx hd3;go_wp2_with fail;((with_reducible refine HSUB.out.mono ?_));rintro e w6 ⟨rfl,hb6,i6,hi6,hp6⟩;have hlt6:(i+1)<i6:=Qcv hp6.ix hi6 HGOOD.out hd1 hd2;have hix6:=hp6.ix;subst hi6;rw [List.append_assoc,List.cons_append] at hp6;have HB6:Hid (Below B w w6):=Za (HB5.out.trans hb6);have HP6:=Za hp6;clear hb6 hp6;go_wp2_with fail;go_roundw
          case rel=>exact ⟨j+1,by go_num,by omega,Za (.inl ⟨ns++n1,i6,by omega,fun h=>by omega,by omega,HX2,HP6,HB6⟩)⟩
          case measure=>rw [HLF.out,HP6.out.left,if_neg (by omega)];omega
    ·have hdt:decide (j<a)=false:=decide_eq_false hlta;obtain rfl:j=a:=by omega
     go_wp2_with fail;go_meet;exact ⟨j,rfl,hjN,Za (.inl ⟨rfl,.inl ⟨ns,i,hja,hns,hin,HXA,HP,HB⟩⟩)⟩
   ·clear hrel;obtain ⟨w3,rfl⟩:∃ y:World,y=wr:=⟨_,rfl⟩;go_upto_region 3 with fail;go_cut [35] (fun z wx=>z = .bool false/\w3=wx)
    case first =>
     obtain ⟨tv,nv,k1,k2,k3⟩:=HP.out.ex;obtain ⟨c0,c1,c2,c3⟩:=Qaa k1;have hF2:¬ (jf:Int)<0:=by omega
     clear k1 k2 k3;by_cases hlt:j<N
     ·have hlt':(j:Int)<(N:Int):=by omega
      have hjk:j<kinds.length:=by rw [HN.out];exact hlt
      obtain ⟨kj,hkj⟩:∃ x,kinds[j]=x:=⟨_,rfl⟩;obtain ⟨bk,hbk⟩:∃ z,Hid (Qhv kj=z):=⟨_,Za rfl⟩;have HI:=Za (fun w=>Qhf kj bk hbk w);cases bk
      all_goals
       go_wp2_with fail;((with_reducible refine (HI.out _).mono ?_));rintro e w4 ⟨rfl,rfl⟩;go_wp2_with fail;go_meet;exact ⟨rfl,rfl⟩
     ·have hlt':¬ (j:Int)<(N:Int):=by omega
      go_wp2_with fail;go_meet;exact ⟨rfl,rfl⟩
    case rest =>
    obtain ⟨rfl,rfl⟩:=hcut;obtain ⟨w3,rfl⟩:∃ y:World,y=w3:=⟨_,rfl⟩;go_wp2_with fail;go_meet;exact ⟨j,rfl,hjN,Za (.inr ⟨i,jf,o',HXF,HP,HB⟩)⟩
 case rest =>
 clear HREL HZ0;obtain ⟨j,rfl,hjN,hcs⟩:=hcut;obtain ⟨w3,rfl⟩:∃ y:World,y=wc:=⟨_,rfl⟩;have HREL2:Hid (Calls Tryz.prog 203 #[.pointer (some ⟨b,0,none⟩),.int .i64 6] w3 fun e w'=>e = .returned (.tuple #[])/\Hid (∃ z,w'=z/\((a<=j/\(∃ (ns:List Nd) (i:Nat),L.length-i<=n+1/\Hid (Qc0 sub (kinds.drop j) ns (L.drop i)=Z)/\Hid (RSt m B b z L i (-1) (o++⟨op,num,str,(N:Nat)⟩::ns))/\Hid (Below B w z)))\/(∃ (i jf:Nat) (o':List Nd),Hid (Z = .no (L.drop jf))/\Hid (RSt m B b z L i jf o')/\Hid (Below B w z))))):=Za (by
  rcases hcs.out with ⟨rfl,⟨ns,i,hja,hns,hin,HXA,HP,HB⟩|⟨i,jf,o',HXF,HP,HB⟩⟩|⟨i,jf,o',HXF,HP,HB⟩
  ·refine (Qem m 6 B b i w3 L _ HP.out (by omega) (by decide)).mono ?_;rintro e w4 ⟨rfl,hb4,hres⟩;refine ⟨rfl,Za ⟨_,rfl,?_⟩⟩;have HXE:=HXA.out;rw [Qr4 sub HK.out ha0] at HXE;cases h6:atT 6 (L.drop i) with
   | true =>
     rw [h6,if_pos rfl] at hres HXE;rw [List.tail_drop] at HXE;exact .inl ⟨Nat.le_refl _,ns,i+1,by omega,Za HXE,Za hres,Za (HB.out.trans hb4)⟩
   | false =>
     rw [h6,if_neg (by decide)] at hres HXE;exact .inr ⟨i,i,_,Za HXE.symm,Za hres,Za (HB.out.trans hb4)⟩
  ·refine (QiA m jf 6 B b i w3 L o' HP.out (by omega)).mono ?_;rintro e w4 ⟨rfl,rfl⟩;exact ⟨rfl,Za ⟨_,rfl,.inr ⟨i,jf,o',HXF,HP,HB⟩⟩⟩
  ·refine (QiA m jf 6 B b i w3 L o' HP.out (by omega)).mono ?_;rintro e w4 ⟨rfl,rfl⟩;exact ⟨rfl,Za ⟨_,rfl,.inr ⟨i,jf,o',HXF,HP,HB⟩⟩⟩)
 clear hcs;go_wp2_with fail;((with_reducible refine HREL2.out.mono ?_));rintro e w4 ⟨rfl,HREL⟩;clear HREL2;go_wp2_with fail;go_loopw [6] (fun x wr=>∃ j:Nat,x = .int .i64 j/\j<=N/\Hid ((a<=j/\(∃ (ns:List Nd) (i:Nat),L.length-i<=n+1/\Hid (Qc0 sub (kinds.drop j) ns (L.drop i)=Z)/\Hid (RSt m B b wr L i (-1) (o++⟨op,num,str,(N:Nat)⟩::ns))/\Hid (Below B w wr)))\/(∃ (i jf:Nat) (o':List Nd),Hid (Z = .no (L.drop jf))/\Hid (RSt m B b wr L i jf o')/\Hid (Below B w wr)))) (fun x _=>N-(intOf x).toNat)
 case atStart =>
  obtain ⟨z,rfl,h⟩:=HREL.out;exact ⟨j,rfl,hjN,Za h⟩
 case round =>
  clear HREL hjN;obtain ⟨j,rfl,hjN,hrel⟩:=hrel;rcases hrel.out with ⟨haj,ns,i,hin,HXA,HP,HB⟩|⟨i,jf,o',HXF,HP,HB⟩
  ·clear hrel;obtain ⟨w3,rfl⟩:∃ y:World,y=wr:=⟨_,rfl⟩;obtain ⟨tv,nv,k1,k2,k3⟩:=HP.out.ex;obtain ⟨c0,c1,c2,c3⟩:=Qaa k1;clear k1 k2 k3;by_cases hlt:j<N
   ·have hlt':(j:Int)<(N:Int):=by omega
    have hjk:j<kinds.length:=by rw [HN.out];exact hlt
    obtain ⟨kj,hkj⟩:∃ x,kinds[j]=x:=⟨_,rfl⟩;have HBL:=Za (Qll m B b L sub n HS.out HGD.out (by omega) kj i _ w3 HP.out (by omega));have HX1:Hid (Z=match QbC sub kj (L.drop i) with|.no x=>.no x|.ok r1 n1=>Qc0 sub (kinds.drop (j+1)) (ns++n1) r1):=Za (by rw [<- HXA.out,QpZ sub hjk,hkj]);have hgood:=QgG HGD.out kj (L.drop i);clear HXA;cases hx:QbC sub kj (L.drop i) with
    | no x =>
      rw [hx] at HBL HX1;have HX2:Hid (Z = .no x):=HX1;clear hx hgood;go_wp2_with fail;((with_reducible refine HBL.out.mono ?_));rintro e w6 ⟨rfl,hb6,i6,j6,o6,rfl,hp6⟩;have HB6:Hid (Below B w w6):=Za (HB.out.trans hb6);have HP6:=Za hp6;clear hb6 hp6 c0 c1 c2 c3;go_wp2_with fail;go_roundw
      case rel=>exact ⟨j+1,by go_num,by omega,Za (.inr ⟨i6,j6,o6,HX2,HP6,HB6⟩)⟩
      case measure=>simp [intOf];omega
    | ok x n1 =>
      rw [hx] at HBL HX1 hgood;have HX2:Hid (Qc0 sub (kinds.drop (j+1)) (ns++n1) x=Z):=Za HX1.out.symm;obtain ⟨d,hd1,hd2,hd3,hd4⟩:=hgood;have HGOOD:=Za hd3;clear hx hd3;go_wp2_with fail;((with_reducible refine HBL.out.mono ?_));rintro e w6 ⟨rfl,hb6,i6,hi6,hp6⟩;have hlt6:i<i6:=Qcv hp6.ix hi6 HGOOD.out hd1 hd2;subst hi6;rw [List.append_assoc,List.cons_append] at hp6;have HB6:Hid (Below B w w6):=Za (HB.out.trans hb6);have HP6:=Za hp6;clear hb6 hp6 c0 c1 c2 c3;go_wp2_with fail;go_roundw
      case rel=>exact ⟨j+1,by go_num,by omega,Za (.inl ⟨by omega,ns++n1,i6,by omega,HX2,HP6,HB6⟩)⟩
      case measure=>simp [intOf];omega
   ·have hlt':¬ (j:Int)<(N:Int):=by omega
    have HX2:Hid (Z = .ok (L.drop i) ns):=Za (by rw [<- HXA.out,List.drop_eq_nil_of_le (by rw [HN.out];omega),Qc0]);clear HXA;go_wp2_with fail;go_end0;rw [HX2.out];exact ⟨rfl,HB.out,_,rfl,HP.out⟩
  ·clear hrel;obtain ⟨w3,rfl⟩:∃ y:World,y=wr:=⟨_,rfl⟩;obtain ⟨tv,nv,k1,k2,k3⟩:=HP.out.ex;obtain ⟨c0,c1,c2,c3⟩:=Qaa k1;have hF2:¬ (jf:Int)<0:=by omega
   have hjj:(j:Int)<(N:Int)\/¬ (j:Int)<(N:Int):=by omega
   clear k1 k2 k3;rcases hjj with hjj|hjj
   all_goals
    go_wp2_with fail;go_end0;rw [HXF.out];exact ⟨rfl,HB.out,_,_,_,rfl,HP.out⟩
end
end Go.Proofs.YtoohondkpddmcaaGreatDoor
