/- Ms Lp Lx -/
import Derived.Test.YtoohondkpddmcaaGreatDoorYzz
import Derived.Test.YtoohondkpddmcaaGreatDoorYax
import Derived.Test.YtoohondkpddmcaaGreatDoorYbb
import Derived.Test.YtoohondkpddmcaaGreatDoorYak
import Derived.Test.YtoohondkpddmcaaGreatDoorYas
namespace Go.Proofs.YtoohondkpddmcaaGreatDoor
set_option maxHeartbeats 32000000
set_option linter.unusedVariables false
set_option linter.unusedSimpArgs false
section
open Go.RowKit
attribute [local go_sem] ByteArray.mk_append_mk Qah Qai Qag
theorem Qmt {p:List Nd} {f i:Nat} (h:p.length<=i):Qdr p f i=[]:=by
 cases f with
 | zero=>rfl
 | succ f=>rw [Qdr,if_pos h]
theorem Qmu {p:List Nd} {f i:Nat} (h:i<p.length) (hv:Qdq p f i=true):∃ g j,f=g+1/\Qaz p 32 false 68 i=some j/\Qdq p g j=true/\Qdr p f i=(QaB p 32 i).1++Qdr p g j:=by
 cases f with
 | zero=>rw [Qdq,decide_eq_true_eq] at hv;omega
 | succ g =>
   rw [Qdq,if_neg (by omega)] at hv;cases hx:Qaz p 32 false 68 i with
   | none=>rw [hx] at hv;cases hv
   | some j =>
     rw [hx] at hv;refine ⟨g,j,rfl,rfl,hv,?_⟩;rw [Qdr,if_neg (by omega),Qds p 32 false 68 i j hx]
set_option maxRecDepth 100000 in
theorem QrU (m:Int) (p:List Nd) (v:Value) (w:World) (hv:NSl w v p) (hm:SynG m w) (hP:Qml p) (hl:p.length<=9223372036854775000) :
  Calls Tryz.prog 17 #[v] w fun e w'=>e = .returned (.tuple #[.string ⟨(Qfj p).1.toArray⟩,.int .i64 (Qfj p).2])/\Below w.heap.size w w':=by
 have HVA:=Za (QkO m p v w hv hm hl);have HEC:=Za (EnC.start (m:=m) hv hm.1);obtain ⟨B,hB⟩:∃ B,w.heap.size=B:=⟨_,rfl⟩;rw [hB] at HVA HEC |-;obtain ⟨Z,hZ⟩:∃ Z,Hid (Qfj p=Z):=⟨_,Za rfl⟩;rw [hZ.out];obtain ⟨vb,hvb⟩:∃ z,Qbk p=z:=⟨_,rfl⟩;have HVB:=Za hvb;rw [hvb] at HVA;have HZ:Hid (Z=if vb=false then ([],1) else if 65536<(Qdr p p.length 0).length then ([],11) else (Qdr p p.length 0,0)):=Za (by rw [<- hZ.out,<- hvb]<;>rfl);obtain ⟨a,cap,hvv,_⟩:=hv.1;subst hvv;cases vb with
 | false =>
   have HZ2:Hid (Z=([],1)):=Za (by rw [HZ.out,if_pos rfl]);clear hv hm hP hl hZ hB hvb HZ;go_enter Tryz.func17,Tryz.ntmps17;go_wp2_with fail;((with_reducible refine HVA.out.mono ?_));rintro e w1 ⟨rfl,hb1⟩;have HB1:=Za hb1;clear hb1 HVA;go_wp2_with fail;go_ret2;rw [HZ2.out];exact ⟨rfl,HB1.out⟩
 | true =>
   rw [if_neg (by decide)] at HZ;have hvb2:=hvb;unfold Qbk at hvb2;rw [Bool.and_eq_true,decide_eq_true_eq] at hvb2;have hpl:p.length<=2048:=hvb2.1;have HTL:Hid ((Qdr p p.length 0).length<=526336):=Za (Qmc hvb);have HTP:Hid (Qdq p p.length 0=true):=Za hvb2.2;have IH:=Za (QoH (.slice a p.length cap) p m (by omega) hP 32);unfold EnT at IH;obtain ⟨T,hT⟩:∃ T,Qdr p p.length 0=T:=⟨_,rfl⟩;rw [hT] at HZ HTL;have HT0:Hid (([]:List UInt8)++Qdr p p.length 0=T):=Za hT;obtain ⟨L,hL⟩:∃ L,p.length=L:=⟨_,rfl⟩;have HL:=Za hL;rw [hL] at HTP HT0 HVA HEC IH hpl |-;have hL0:(0:Int)<=(L:Int):=by omega
   clear hv hm hP hl hZ hvb hvb2 hT hL;go_enter Tryz.func17,Tryz.ntmps17;go_wp2_with fail;((with_reducible refine HVA.out.mono ?_));rintro e w1 ⟨rfl,hb1⟩;have HW1:Hid (EnB B w1 w1):=Za (EnB.refl _ _);have HEC1:=Za (HEC.out.below hb1);have HB1:=Za hb1;have HBN:Hid (Bytes w1 B (.slice none 0 0) []):=Za (Bytes.nil _ _);clear hb1 HVA HEC;go_wp2_with fail;go_loopw [4,5] (fun u y wr=>∃ (z:Value) (f ii:Nat) (st:List UInt8),z=u/\y = .int .i64 ii/\ii<=L/\Hid (Qdq p f ii=true)/\Hid (Bytes wr B z st)/\Hid (st++Qdr p f ii=T)/\Hid (EnB B w1 wr)) (fun _ y _=>L-(intOf y).toNat)
   case atStart=>exact ⟨_,L,0,[],rfl,rfl,Nat.zero_le _,HTP,HBN,HT0,HW1⟩
   case round =>
    obtain ⟨z,f,ii,st,rfl,rfl,hii,HV,HB,HT,HBW⟩:=hrel;obtain ⟨w3,rfl⟩:∃ y:World,y=wr:=⟨_,rfl⟩;clear HTP HBN HT0 HW1;by_cases hlt:ii<L
    ·have hlt':(ii:Int)<(L:Int):=by omega
     obtain ⟨g,j,_,hva,hvt,het⟩:=Qmu (by rw [HL.out];exact hlt) HV.out;have hj:ii<j/\j<=L:=by
      have:=Qa5 p 32 false 68 ii j hva;rw [HL.out] at this;omega
     have HT1:Hid ((st++(QaB p 32 ii).1)++Qdr p g j=T):=Za (by rw [List.append_assoc,<- het];exact HT.out);have HV1:=Za hvt;have HCL:=Za (IH.out false 68 ii j z st B w3 hva HB.out (HEC1.out.below HBW.out.1) (by
      have h1:=congrArg List.length HT1.out;have h2:=HTL.out;simp only [List.length_append] at h1;omega))
     clear hva hvt het HV HB HT;go_wp2_with fail;((with_reducible refine HCL.out.mono ?_));rintro e w4 ⟨cv4,rfl,hb4,hbw4⟩;have HB4:=Za hb4;have HBW4:=Za (HBW.out.trans hbw4);clear hb4 hbw4 HCL HBW;go_wp2_with fail;go_roundw
     case rel=>exact ⟨_,g,j,_,rfl,rfl,by omega,HV1,HB4,HT1,HBW4⟩
     case measure=>simp [intOf];omega
    ·have hlt':¬ (ii:Int)<(L:Int):=by omega
     have HST:Hid (st=T):=Za (by
      have h:=HT.out;rw [Qmt (by rw [HL.out];omega),List.append_nil] at h;exact h)
     obtain ⟨ca,cc,rfl⟩:=HB.out.form;have hcv:=HB.out.conv;have HFIN:Hid (Below B w w3):=Za (HB1.out.trans HBW.out.1);have hst:st.length<=526336:=by rw [HST.out];exact HTL.out
     by_cases h6:65536<st.length
     ·have h6':(st.length:Int)>65536:=by omega
      have HZ2:Hid (Z=([],11)):=Za (by rw [HZ.out,if_pos (by rw [<- HST.out];exact h6)]);clear HT HV hcv h6 HBW;go_wp2_with fail;go_ret2;rw [HZ2.out];exact ⟨rfl,HFIN.out⟩
     ·have h6':¬ (st.length:Int)>65536:=by omega
      have HZ2:Hid (Z=(st,0)):=Za (by rw [HZ.out,if_neg (by rw [<- HST.out];exact h6),HST.out]);clear HT HV h6 HBW;go_wp2_with fail;go_ret2;rw [HZ2.out];exact ⟨rfl,HFIN.out⟩
set_option maxRecDepth 100000 in
theorem Qp4 (p:List Nd) (v:Value) (w:World) (hv:NSl w v p) (hP:Qml p) (hl:p.length<=9223372036854775000) :
  Calls Tryz.prog 18 #[v] w fun e w'=>e = .returned (.tuple #[.string ⟨(Qfj p).1.toArray⟩,.int .i64 (Qfj p).2])/\Below w.heap.size w w':=by
 have HVA:=Za (Qgy p (fun t ht=>(hP t ht).1) v w hv hl);have HSL:=Za hv;obtain ⟨B,hB⟩:∃ B,w.heap.size=B:=⟨_,rfl⟩;have HBE:=Za hB;rw [hB] at HVA |-;obtain ⟨Z,hZ⟩:∃ Z,Hid (Qfj p=Z):=⟨_,Za rfl⟩;rw [hZ.out];obtain ⟨vb,hvb⟩:∃ z,Qbk p=z:=⟨_,rfl⟩;rw [hvb] at HVA;have HZ:Hid (Z=if vb=false then ([],1) else if 65536<(Qdr p p.length 0).length then ([],11) else (Qdr p p.length 0,0)):=Za (by rw [<- hZ.out,<- hvb]<;>rfl);obtain ⟨a,cap,hvv,_⟩:=hv.1;subst hvv;cases vb with
 | false =>
   have HZ2:Hid (Z=([],1)):=Za (by rw [HZ.out,if_pos rfl]);clear hv hP hl hZ hB hvb HZ HSL;go_enter Tryz.func18,Tryz.ntmps18;go_wp2_with fail;((with_reducible refine HVA.out.mono ?_));rintro e w1 ⟨rfl,hb1⟩;have HB1:=Za hb1;clear hb1 HVA;go_wp2_with fail;go_ret2;rw [HZ2.out];exact ⟨rfl,HB1.out⟩
 | true =>
   rw [if_neg (by decide)] at HZ;have hvb2:=hvb;unfold Qbk at hvb2;rw [Bool.and_eq_true,decide_eq_true_eq] at hvb2;have hpl:p.length<=2048:=hvb2.1;have HTL:Hid ((Qdr p p.length 0).length<=526336):=Za (Qmc hvb);have HTP:Hid (Qdq p p.length 0=true):=Za hvb2.2;have IH:=Za (QoI (.slice a p.length cap) p (by omega) hP 32);unfold EnR at IH;obtain ⟨T,hT⟩:∃ T,Qdr p p.length 0=T:=⟨_,rfl⟩;rw [hT] at HZ HTL;have HT0:Hid (([]:List UInt8)++Qdr p p.length 0=T):=Za hT;obtain ⟨L,hL⟩:∃ L,p.length=L:=⟨_,rfl⟩;have HL:=Za hL;rw [hL] at HTP HT0 HVA HSL IH hpl |-;have hL0:(0:Int)<=(L:Int):=by omega
   clear hv hP hl hZ hvb hvb2 hT hL hB;go_enter Tryz.func18,Tryz.ntmps18;go_wp2_with fail;((with_reducible refine HVA.out.mono ?_));rintro e w1 ⟨rfl,hb1⟩;have HB1:=Za hb1;clear hb1 HVA;go_wp2_with fail;go_loopw [4,5] (fun u y wr=>∃ (f ii:Nat) (st:List UInt8),u = .string ⟨st.toArray⟩/\y = .int .i64 ii/\ii<=L/\st.length<=526336/\Hid (Qdq p f ii=true)/\Hid (st++Qdr p f ii=T)/\Hid (Below B w wr)) (fun _ y _=>L-(intOf y).toNat)
   case atStart=>exact ⟨L,0,[],rfl,rfl,Nat.zero_le _,by simp,HTP,HT0,HB1⟩
   case round =>
    obtain ⟨f,ii,st,rfl,rfl,hii,hst,HV,HT,HBW⟩:=hrel;obtain ⟨w3,rfl⟩:∃ y:World,y=wr:=⟨_,rfl⟩;clear HTP HT0 HB1;by_cases hlt:ii<L
    ·have hlt':(ii:Int)<(L:Int):=by omega
     obtain ⟨g,j,_,hva,hvt,het⟩:=Qmu (by rw [HL.out];exact hlt) HV.out;have hj:ii<j/\j<=L:=by
      have:=Qa5 p 32 false 68 ii j hva;rw [HL.out] at this;omega
     have HT1:Hid ((st++(QaB p 32 ii).1)++Qdr p g j=T):=Za (by rw [List.append_assoc,<- het];exact HT.out);have HV1:=Za hvt;have HCL:=Za (IH.out false 68 ii j w3 hva (HSL.out.below (by rw [HBE.out];exact HBW.out)));obtain ⟨y,hy⟩:∃ y,(QaB p 32 ii).1=y:=⟨_,rfl⟩;rw [hy] at HCL HT1;have hyl:y.length<=526336:=by
      have h1:=congrArg List.length HT1.out;have h2:=HTL.out;simp only [List.length_append] at h1;omega
     have hsy:(st++y).length<=526336:=by
      have h1:=congrArg List.length HT1.out;have h2:=HTL.out;rw [List.length_append] at h1;omega
     have HBL:Hid (B<=w3.heap.size):=Za (by have:=HBW.out.size;rw [HBE.out] at this;exact this);clear hva hvt het HV HT hy;go_wp2_with fail;((with_reducible refine HCL.out.mono ?_));rintro e w4 ⟨rfl,hbw4⟩;have HBW4:=Za (HBW.out.trans (hbw4.mono HBL.out));clear hbw4 HCL HBW;go_wp2_with fail;go_roundw
     case rel=>exact ⟨g,j,st++y,rfl,rfl,by omega,hsy,HV1,HT1,HBW4⟩
     case measure=>simp [intOf];omega
    ·have hlt':¬ (ii:Int)<(L:Int):=by omega
     have HST:Hid (st=T):=Za (by
      have h:=HT.out;rw [Qmt (by rw [HL.out];omega),List.append_nil] at h;exact h)
     by_cases h6:65536<st.length
     ·have h6':(st.length:Int)>65536:=by omega
      have HZ2:Hid (Z=([],11)):=Za (by rw [HZ.out,if_pos (by rw [<- HST.out];exact h6)]);clear HT HV h6;go_wp2_with fail;go_ret2;rw [HZ2.out];exact ⟨rfl,HBW.out⟩
     ·have h6':¬ (st.length:Int)>65536:=by omega
      have HZ2:Hid (Z=(st,0)):=Za (by rw [HZ.out,if_neg (by rw [<- HST.out];exact h6),HST.out]);clear HT HV h6;go_wp2_with fail;go_ret2;rw [HZ2.out];exact ⟨rfl,HBW.out⟩
end
section
open Go.RowKit
attribute [local go_sem] ByteArray.mk_append_mk Qah Qai Qag SameB.some SameB.all
theorem QaY {w:World} {b t:Nat} {c0 c1 c2 c3 c4 c5:Value} (h:w.heap[b]?=some (.cells #[c0,c1,c2,c3,c4,c5] t (0,0))) :
  w.cell? ⟨b,0,none⟩=some c0/\w.cell? ⟨b,1,none⟩=some c1/\w.cell? ⟨b,2,none⟩=some c2/\w.cell? ⟨b,3,none⟩=some c3/\w.cell? ⟨b,4,none⟩=some c4/\w.cell? ⟨b,5,none⟩=some c5 :=
 ⟨(cell_of_row w _ 0 _ _ _ h).trans rfl,(cell_of_row w _ 1 _ _ _ h).trans rfl,(cell_of_row w _ 2 _ _ _ h).trans rfl,(cell_of_row w _ 3 _ _ _ h).trans rfl,(cell_of_row w _ 4 _ _ _ h).trans rfl,(cell_of_row w _ 5 _ _ _ h).trans rfl⟩
abbrev tdO (s:List UInt8) (pos e bl:Int) (nv:Value) (er:Int):Obj:=.cells #[.string ⟨s.toArray⟩,.int .i64 pos,.int .i64 e,.int .i64 bl,nv,.int .i64 er] 92 (0,0)
structure TSt (B b:Nat) (w:World) (s:List UInt8) (pos e:Nat) (bl:Nat) (o:List Nd):Prop where
 ex:∃ nv,w.heap[b]?=some (tdO s pos e bl nv 0)/\NodesI w B nv o
 base:B<=b
 size:B<=w.heap.size
theorem TSt.below {B b:Nat} {w w':World} {s:List UInt8} {pos e bl:Nat} {o:List Nd} (h:TSt B b w s pos e bl o) (hb:Below w.heap.size w w'):TSt B b w' s pos e bl o:=by
 obtain ⟨⟨nv,h1,h2⟩,h3,h4⟩:=h;exact ⟨⟨nv,Qad h1 hb,h2.below hb⟩,h3,Nat.le_trans h4 hb.size⟩
theorem TSt.alloc {B b:Nat} {w:World} {s:List UInt8} {pos e bl:Nat} {o:List Nd} (h:TSt B b w s pos e bl o) (x:Obj):TSt B b (w.alloc x) s pos e bl o:=h.below (Zb.alloc Zc _)
theorem QcI {w:World} {B:Nat} {v:Value} {l:List Nd} (h:NodesI w B v l) {b:Nat} {s:List UInt8} {pos e bl er:Int} {nv:Value} (hb:w.heap[b]?=some (tdO s pos e bl nv er)):v.ownBlock≠some b:=by
 intro e;obtain ⟨cur,hc⟩:=Qcp h e;rw [hb] at hc;injection hc with hc;injection hc with _ h2 _;exact absurd h2 (by decide)
theorem TSt.lt {B b:Nat} {w:World} {s:List UInt8} {pos e bl:Nat} {o:List Nd} (h:TSt B b w s pos e bl o):b<w.heap.size:=by
 obtain ⟨nv,h1,_⟩:=h.ex;exact lt_of_block h1
theorem TSt.set {B b:Nat} {w:World} {s:List UInt8} {pos e bl:Nat} {o:List Nd} (h:TSt B b w s pos e bl o) (k:Nat) (u:Value):Below B w (w.setCell ⟨b,k,none⟩ u):=Zb.setCell h.base _
theorem TSt.setPos {B b:Nat} {w:World} {s:List UInt8} {pos e bl:Nat} {o:List Nd} (h:TSt B b w s pos e bl o) (pos':Nat):TSt B b (w.setCell ⟨b,1,none⟩ (.int .i64 pos')) s pos' e bl o:=by
 obtain ⟨nv,h1,h2⟩:=h.ex;exact ⟨⟨nv,heap_setCell_same _ _ 1 _ _ _ h1,QaA h2 _ _ (QcI h2 h1)⟩,h.base,Nat.le_trans h.size (h.set 1 _).size⟩
theorem TSt.setEnd {B b:Nat} {w:World} {s:List UInt8} {pos e bl:Nat} {o:List Nd} (h:TSt B b w s pos e bl o) (e':Nat):TSt B b (w.setCell ⟨b,2,none⟩ (.int .i64 e')) s pos e' bl o:=by
 obtain ⟨nv,h1,h2⟩:=h.ex;exact ⟨⟨nv,heap_setCell_same _ _ 2 _ _ _ h1,QaA h2 _ _ (QcI h2 h1)⟩,h.base,Nat.le_trans h.size (h.set 2 _).size⟩
theorem TSt.setBl {B b:Nat} {w:World} {s:List UInt8} {pos e bl:Nat} {o:List Nd} (h:TSt B b w s pos e bl o) (bl':Nat):TSt B b (w.setCell ⟨b,3,none⟩ (.int .i64 bl')) s pos e bl' o:=by
 obtain ⟨nv,h1,h2⟩:=h.ex;exact ⟨⟨nv,heap_setCell_same _ _ 3 _ _ _ h1,QaA h2 _ _ (QcI h2 h1)⟩,h.base,Nat.le_trans h.size (h.set 3 _).size⟩
def QjH (b:Nat) (q:Nat) (err:Int) (w:World):Prop:=∃ (s:List UInt8) (e bl:Int) (nv:Value),w.heap[b]?=some (tdO s q e bl nv err)
def TBadO (B b:Nat) (q:Nat) (err:Int) (w:World) (o:List Nd):Prop:=∃ (s:List UInt8) (e bl:Int) (nv:Value),w.heap[b]?=some (tdO s q e bl nv err)/\NodesI w B nv o/\B<=b/\B<=w.heap.size
theorem TBadO.bad {B b q:Nat} {err:Int} {w:World} {o:List Nd} (h:TBadO B b q err w o):QjH b q err w:=by
 obtain ⟨s,e,bl,nv,h1,_⟩:=h;exact ⟨s,e,bl,nv,h1⟩
def TPost (B b:Nat) (w:World) (s:List UInt8) (e bl:Nat) (o:List Nd) (x:DR) (en:Ending) (w':World):Prop :=
 Below B w w'/\match x with
  | .no q err=>en = .returned (.bool false)/\QjH b q err w'
  | .ok q ns=>en = .returned (.bool true)/\TSt B b w' s q e bl (o++ns)
def QaH (bl:Nat):Bool:=decide (0<bl)
theorem QfD (B b:Nat) (w:World) (s:List UInt8) (pos e bl:Nat) (o:List Nd) (h:TSt B b w s pos e bl o) :
  Calls Tryz.prog 103 #[.pointer (some ⟨b,0,none⟩)] w fun en w'=>en = .returned (.bool false)/\Below B w w'/\TBadO B b pos 3 w' o:=by
 have HB:=Za (h.set 5 (.int .i64 3));obtain ⟨nv,h1,h2⟩:=h.ex;have HE:=Za (show TBadO B b pos 3 (w.setCell ⟨b,5,none⟩ (.int .i64 3)) o from ⟨_,_,_,_,heap_setCell_same _ _ 5 _ _ (.int .i64 3) h1,QaA h2 _ _ (QcI h2 h1),h.base,Nat.le_trans h.size (h.set 5 _).size⟩);obtain ⟨c0,c1,c2,c3,c4,c5⟩:=QaY h1;have f5:=Qam h1 5;clear h h1 h2;go_enter Tryz.func103,Tryz.ntmps103;go_wp2_with fail;go_ret;exact ⟨rfl,HB.out,HE.out⟩
theorem Qga (B b:Nat) (w:World) (s:List UInt8) (pos e bl:Nat) (o:List Nd) (h:TSt B b w s pos e bl o) :
  Calls Tryz.prog 103 #[.pointer (some ⟨b,0,none⟩)] w fun en w'=>en = .returned (.bool false)/\Below B w w'/\QjH b pos 3 w' :=
 (QfD B b w s pos e bl o h).mono fun _ _ ⟨a,c,d⟩=>⟨a,c,d.bad⟩
theorem Qid (B b:Nat) (w:World) (s:List UInt8) (pos e bl:Nat) (o:List Nd) (h:TSt B b w s pos e bl o) :
  Calls Tryz.prog 100 #[.pointer (some ⟨b,0,none⟩)] w fun en w'=>en = .returned (.bool false)/\Below B w w'/\TBadO B b pos (Qd2 (QaH bl)) w' o:=by
 have HB:=Za (h.set 5 (.int .i64 4));have HS:=Za h.base;obtain ⟨nv,h1,h2⟩:=h.ex;have he:(w.setCell ⟨b,5,none⟩ (.int .i64 4)).heap[b]?=some (tdO s pos e bl nv 4):=heap_setCell_same _ _ 5 _ _ (.int .i64 4) h1;have hn:=QaA h2 ⟨b,5,none⟩ (.int .i64 4) (QcI h2 h1);have hz:=Nat.le_trans h.size (h.set 5 (.int .i64 4)).size;obtain ⟨c0,c1,c2,c3,c4,c5⟩:=QaY h1;have f5:=Qam h1 5;clear h h1 h2;go_enter Tryz.func100,Tryz.ntmps100;go_upto_region 2 with fail;generalize w.setCell ⟨b,5,none⟩ (.int .i64 4)=w1 at *;clear c0 c1 c2 c3 c4 c5 f5;obtain ⟨c0,c1,c2,c3,c4,c5⟩:=QaY he;have f5:=Qam he 5;by_cases hbl:0<bl
 ·have hbl':(bl:Int)>0:=by omega
  have HE2:=Za (show TBadO B b pos 3 (w1.setCell ⟨b,5,none⟩ (.int .i64 3)) o from ⟨_,_,_,_,heap_setCell_same _ _ 5 _ _ (.int .i64 3) he,QaA hn _ _ (QcI hn he),HS.out,Nat.le_trans hz ((Below.refl B w1).setCell (p:=⟨b,5,none⟩) HS.out _).size⟩);have HB2:Hid (Below B w (w1.setCell ⟨b,5,none⟩ (.int .i64 3))):=Za (HB.out.setCell HS.out _);have HT:Hid (Qd2 (QaH bl)=3):=Za (by unfold QaH Qd2;rw [decide_eq_true hbl]<;>rfl);clear he hbl hn hz;go_wp2_with fail;go_ret;rw [HT.out];exact ⟨rfl,HB2.out,HE2.out⟩
 ·have hbl':¬ (bl:Int)>0:=by omega
  have HT:Hid (Qd2 (QaH bl)=4):=Za (by unfold QaH Qd2;rw [decide_eq_false hbl]<;>rfl);have HE:=Za (show TBadO B b pos 4 w1 o from ⟨_,_,_,_,he,hn,HS.out,hz⟩);clear he hbl hn hz;go_wp2_with fail;go_ret;rw [HT.out];exact ⟨rfl,HB.out,HE.out⟩
theorem Qev (B b:Nat) (w:World) (s:List UInt8) (pos e bl:Nat) (o:List Nd) (h:TSt B b w s pos e bl o) :
  Calls Tryz.prog 100 #[.pointer (some ⟨b,0,none⟩)] w fun en w'=>en = .returned (.bool false)/\Below B w w'/\QjH b pos (Qd2 (QaH bl)) w' :=
 (Qid B b w s pos e bl o h).mono fun _ _ ⟨a,c,d⟩=>⟨a,c,d.bad⟩
theorem QfY (B b:Nat) (w:World) (s:List UInt8) (pos e bl:Nat) (o:List Nd) (h:TSt B b w s pos e bl o) (hp:pos<=e) (he:e<=s.length) (hs:s.length<=1000000) :
  Calls Tryz.prog 105 #[.pointer (some ⟨b,0,none⟩)] w fun en w'=>en = .returned (.string ⟨(Qaw s pos e).toArray⟩)/\∃ n,w'=w.drewN n:=by
 obtain ⟨nv,h1,h2⟩:=h.ex;obtain ⟨c0,c1,c2,c3,c4,c5⟩:=QaY h1;have HR:Hid (Qaw s pos e=List.take (e-pos) (List.drop pos s)):=Za rfl;rw [HR.out];clear h h1 h2;go_enter Tryz.func105,Tryz.ntmps105;go_wp2_with fail;go_quiet (fail);go_wp2_with fail;go_ret;exact ⟨by simp,_,rfl⟩
end
section
open Go.RowKit
attribute [local go_sem] ByteArray.mk_append_mk Qah Qai Qag SameB.some SameB.all
theorem Qaj {w:World} {b t:Nat} {c0 c1 c2 c3 c4 c5 c6:Value} (h:w.heap[b]?=some (.cells #[c0,c1,c2,c3,c4,c5,c6] t (0,0))) :
  w.cell? ⟨b,0,none⟩=some c0/\w.cell? ⟨b,1,none⟩=some c1/\w.cell? ⟨b,2,none⟩=some c2/\w.cell? ⟨b,3,none⟩=some c3/\w.cell? ⟨b,4,none⟩=some c4/\w.cell? ⟨b,5,none⟩=some c5/\w.cell? ⟨b,6,none⟩=some c6 :=
 ⟨(cell_of_row w _ 0 _ _ _ h).trans rfl,(cell_of_row w _ 1 _ _ _ h).trans rfl,(cell_of_row w _ 2 _ _ _ h).trans rfl,(cell_of_row w _ 3 _ _ _ h).trans rfl,(cell_of_row w _ 4 _ _ _ h).trans rfl,(cell_of_row w _ 5 _ _ _ h).trans rfl,(cell_of_row w _ 6 _ _ _ h).trans rfl⟩
abbrev rdO (s:List UInt8) (pos e:Int) (inner:Bool) (nv:Value) (er at_:Int):Obj:=.cells #[.string ⟨s.toArray⟩,.int .i64 pos,.int .i64 e,.bool inner,nv,.int .i64 er,.int .i64 at_] 151 (0,0)
structure RdSt (B b:Nat) (w:World) (s:List UInt8) (pos e:Nat) (inner:Bool) (o:List Nd):Prop where
 ex:∃ nv,w.heap[b]?=some (rdO s pos e inner nv 0 0)/\NodesI w B nv o
 base:B<=b
 size:B<=w.heap.size
theorem RdSt.below {B b:Nat} {w w':World} {s:List UInt8} {pos e:Nat} {inner:Bool} {o:List Nd} (h:RdSt B b w s pos e inner o) (hb:Below w.heap.size w w'):RdSt B b w' s pos e inner o:=by
 obtain ⟨⟨nv,h1,h2⟩,h3,h4⟩:=h;exact ⟨⟨nv,Qad h1 hb,h2.below hb⟩,h3,Nat.le_trans h4 hb.size⟩
theorem Qa6 {w:World} {B:Nat} {v:Value} {l:List Nd} (h:NodesI w B v l) {b:Nat} {s:List UInt8} {pos e er at_:Int} {inner:Bool} {nv:Value} (hb:w.heap[b]?=some (rdO s pos e inner nv er at_)):v.ownBlock≠some b:=by
 intro e;obtain ⟨cur,hc⟩:=Qcp h e;rw [hb] at hc;injection hc with hc;injection hc with _ h2 _;exact absurd h2 (by decide)
theorem RdSt.lt {B b:Nat} {w:World} {s:List UInt8} {pos e:Nat} {inner:Bool} {o:List Nd} (h:RdSt B b w s pos e inner o):b<w.heap.size:=by
 obtain ⟨nv,h1,_⟩:=h.ex;exact lt_of_block h1
theorem RdSt.set {B b:Nat} {w:World} {s:List UInt8} {pos e:Nat} {inner:Bool} {o:List Nd} (h:RdSt B b w s pos e inner o) (k:Nat) (u:Value):Below B w (w.setCell ⟨b,k,none⟩ u):=Zb.setCell h.base _
theorem RdSt.setPos {B b:Nat} {w:World} {s:List UInt8} {pos e:Nat} {inner:Bool} {o:List Nd} (h:RdSt B b w s pos e inner o) (pos':Nat):RdSt B b (w.setCell ⟨b,1,none⟩ (.int .i64 pos')) s pos' e inner o:=by
 obtain ⟨nv,h1,h2⟩:=h.ex;exact ⟨⟨nv,heap_setCell_same _ _ 1 _ _ _ h1,QaA h2 _ _ (Qa6 h2 h1)⟩,h.base,Nat.le_trans h.size (h.set 1 _).size⟩
theorem RdSt.setEnd {B b:Nat} {w:World} {s:List UInt8} {pos e:Nat} {inner:Bool} {o:List Nd} (h:RdSt B b w s pos e inner o) (e':Nat):RdSt B b (w.setCell ⟨b,2,none⟩ (.int .i64 e')) s pos e' inner o:=by
 obtain ⟨nv,h1,h2⟩:=h.ex;exact ⟨⟨nv,heap_setCell_same _ _ 2 _ _ _ h1,QaA h2 _ _ (Qa6 h2 h1)⟩,h.base,Nat.le_trans h.size (h.set 2 _).size⟩
theorem RdSt.setIn {B b:Nat} {w:World} {s:List UInt8} {pos e:Nat} {inner:Bool} {o:List Nd} (h:RdSt B b w s pos e inner o) (inner':Bool):RdSt B b (w.setCell ⟨b,3,none⟩ (.bool inner')) s pos e inner' o:=by
 obtain ⟨nv,h1,h2⟩:=h.ex;exact ⟨⟨nv,heap_setCell_same _ _ 3 _ _ _ h1,QaA h2 _ _ (Qa6 h2 h1)⟩,h.base,Nat.le_trans h.size (h.set 3 _).size⟩
def RdBad (B b:Nat) (q:Nat) (err:Int) (w:World) (o:List Nd):Prop:=∃ (s:List UInt8) (pos e:Int) (inner:Bool) (nv:Value) (ms:List Nd),w.heap[b]?=some (rdO s pos e inner nv err q)/\NodesI w B nv (o++ms)/\(err=3\/err=4)/\B<=b/\B<=w.heap.size
theorem RdBad.below {B b q:Nat} {err:Int} {w w':World} {o:List Nd} (h:RdBad B b q err w o) (hb:Below w.heap.size w w'):RdBad B b q err w' o:=by
 obtain ⟨s,pos,e,inner,nv,ms,h1,h2,h3,h4,h5⟩:=h;exact ⟨s,pos,e,inner,nv,ms,Qad h1 hb,h2.below hb,h3,h4,Nat.le_trans h5 hb.size⟩
theorem RdBad.less {B b q:Nat} {err:Int} {w:World} {o ns:List Nd} (h:RdBad B b q err w (o++ns)):RdBad B b q err w o:=by
 obtain ⟨s,pos,e,inner,nv,ms,h1,h2,h3⟩:=h;exact ⟨s,pos,e,inner,nv,ns++ms,h1,by rw [<- List.append_assoc];exact h2,h3⟩
def RdBad0 (B b:Nat) (q:Nat) (err:Int) (w:World) (o:List Nd):Prop:=∃ (s:List UInt8) (pos e:Int) (inner:Bool) (nv:Value),w.heap[b]?=some (rdO s pos e inner nv err q)/\NodesI w B nv o/\(err=3\/err=4)/\B<=b/\B<=w.heap.size
theorem RdBad0.bad {B b q:Nat} {err:Int} {w:World} {o:List Nd} (h:RdBad0 B b q err w o):RdBad B b q err w o:=by
 obtain ⟨s,pos,e,inner,nv,h1,h2,h3⟩:=h;exact ⟨s,pos,e,inner,nv,[],h1,by rw [List.append_nil];exact h2,h3⟩
def QbK (B b:Nat) (w:World) (s:List UInt8) (e:Nat) (inner:Bool) (o:List Nd) (x:DR) (en:Ending) (w':World):Prop :=
 Below B w w'/\en = .returned (.tuple #[])/\match x with
  | .no q err=>RdBad B b q err w' o
  | .ok q ns=>RdSt B b w' s q e inner (o++ns)
def KeptN (b:Nat) (w w':World):Prop:=∀ (s:List UInt8) (pos e:Int) (inner:Bool) (nv:Value) (er at_:Int),w.heap[b]?=some (rdO s pos e inner nv er at_)->∃ (s':List UInt8) (pos' e':Int) (inner':Bool) (er' at':Int),w'.heap[b]?=some (rdO s' pos' e' inner' nv er' at')
def Only (b:Nat) (w w':World):Prop:=w.heap.size<=w'.heap.size/\(∀ k,k<w.heap.size->k≠b->w'.heap[k]?=w.heap[k]?)/\KeptN b w w'
theorem Only.refl (b:Nat) (w:World):Only b w w:=⟨Nat.le_refl _,fun _ _ _=>rfl,fun s p e i nv r a h=>⟨s,p,e,i,r,a,h⟩⟩
theorem Only.trans {b:Nat} {w w1 w2:World} (h:Only b w w1) (k:Only b w1 w2):Only b w w2 :=
 ⟨Nat.le_trans h.1 k.1,fun j hj hne=>(k.2.1 j (Nat.lt_of_lt_of_le hj h.1) hne).trans (h.2.1 j hj hne),fun s p e i nv r a hb=>by
  obtain ⟨s1,p1,e1,i1,r1,a1,h1⟩:=h.2.2 s p e i nv r a hb;exact k.2.2 s1 p1 e1 i1 nv r1 a1 h1⟩
theorem Only.below {b:Nat} {w w':World} (h:Below w.heap.size w w'):Only b w w':=⟨h.size,fun k hk _=>h.block k hk,fun s p e i nv r a hb=>⟨s,p,e,i,r,a,Qad hb h⟩⟩
theorem Only.set1 (b:Nat) (w:World) (z:Int):Only b w (w.setCell ⟨b,1,none⟩ (.int .i64 z)):=⟨by simp [World.setCell],fun k _ hne=>Below.heap_setCell _ _ _ _ hne,fun s p e i nv r a hb=>⟨s,z,e,i,r,a,heap_setCell_same _ _ 1 _ _ _ hb⟩⟩
theorem Only.set5 (b:Nat) (w:World) (z:Int):Only b w (w.setCell ⟨b,5,none⟩ (.int .i64 z)):=⟨by simp [World.setCell],fun k _ hne=>Below.heap_setCell _ _ _ _ hne,fun s p e i nv r a hb=>⟨s,p,e,i,z,a,heap_setCell_same _ _ 5 _ _ _ hb⟩⟩
theorem Only.set6 (b:Nat) (w:World) (z:Int):Only b w (w.setCell ⟨b,6,none⟩ (.int .i64 z)):=⟨by simp [World.setCell],fun k _ hne=>Below.heap_setCell _ _ _ _ hne,fun s p e i nv r a hb=>⟨s,p,e,i,r,z,heap_setCell_same _ _ 6 _ _ _ hb⟩⟩
def QdA (inner:Bool) (er:Int):Int:=if er=4 then Qd2 inner else 3
theorem QtA (inner:Bool) (er:Int):QdA inner er=3\/QdA inner er=4:=by
 unfold QdA Qd2;by_cases h:er=4<;>cases inner<;>simp [h]
set_option maxRecDepth 100000 in
theorem Qhd (B b:Nat) (er:Int) (q:Nat) (her:er=3\/er=4) (w:World) (s:List UInt8) (pos e:Nat) (inner:Bool) (o:List Nd) (h:RdSt B b w s pos e inner o) :
  Calls Tryz.prog 157 #[.pointer (some ⟨b,0,none⟩),.int .i64 er,.int .i64 q] w fun en w'=>en = .returned (.tuple #[])/\RdBad0 B b q (QdA inner er) w' o/\Below B w w'/\Only b w w':=by
 have HS:=Za h.base;have HBB:=Za (fun (E:Int)=>((Below.refl B w).setCell (p:=⟨b,5,none⟩) h.base (.int .i64 E)).setCell (p:=⟨b,6,none⟩) h.base (.int .i64 q));obtain ⟨nv,h1,h2⟩:=h.ex;have HE:Hid (∀ E:Int,E=QdA inner er->RdBad0 B b q (QdA inner er) ((w.setCell ⟨b,5,none⟩ (.int .i64 E)).setCell ⟨b,6,none⟩ (.int .i64 q)) o):=Za (fun E hE=>by
  have k1:=heap_setCell_same _ _ 5 _ _ (.int .i64 E) h1;have n1:=QaA h2 ⟨b,5,none⟩ (.int .i64 E) (Qa6 h2 h1);have k2:=heap_setCell_same _ _ 6 _ _ (.int .i64 q) k1;have n2:=QaA n1 ⟨b,6,none⟩ (.int .i64 q) (Qa6 n1 k1);refine ⟨s,pos,e,inner,nv,?_,n2,QtA _ _,h.base,Nat.le_trans h.size (HBB.out E).size⟩;rw [<- hE];exact k2)
 obtain ⟨c0,c1,c2,c3,c4,c5,c6⟩:=Qaj h1;have f5:=Qam h1 5;have f6:=Qam h1 6;clear h h1 h2;rcases her with rfl|rfl
 ·have HEQ:Hid ((3:Int)=QdA inner 3):=Za rfl;go_enter Tryz.func157,Tryz.ntmps157;go_wp2_with fail;go_end0;exact ⟨rfl,HE.out _ HEQ.out,HBB.out _,(Only.set5 _ _ _).trans (Only.set6 _ _ _)⟩
 ·cases inner with
  | true =>
    have HEQ:Hid ((3:Int)=QdA true 4):=Za rfl;go_enter Tryz.func157,Tryz.ntmps157;go_wp2_with fail;go_end0;exact ⟨rfl,HE.out _ HEQ.out,HBB.out _,(Only.set5 _ _ _).trans (Only.set6 _ _ _)⟩
  | false =>
    have HEQ:Hid ((4:Int)=QdA false 4):=Za rfl;go_enter Tryz.func157,Tryz.ntmps157;go_wp2_with fail;go_end0;exact ⟨rfl,HE.out _ HEQ.out,HBB.out _,(Only.set5 _ _ _).trans (Only.set6 _ _ _)⟩
theorem QdV (B b:Nat) (er:Int) (q:Nat) (her:er=3\/er=4) (w:World) (s:List UInt8) (pos e:Nat) (inner:Bool) (o:List Nd) (h:RdSt B b w s pos e inner o) :
  Calls Tryz.prog 157 #[.pointer (some ⟨b,0,none⟩),.int .i64 er,.int .i64 q] w fun en w'=>en = .returned (.tuple #[])/\RdBad B b q (QdA inner er) w' o/\Below B w w' :=
 (Qhd B b er q her w s pos e inner o h).mono fun _ _ ⟨a,c,d,_⟩=>⟨a,c.bad,d⟩
theorem QdW (B b:Nat) (w:World) (s:List UInt8) (pos e:Nat) (inner:Bool) (o:List Nd) (h:RdSt B b w s pos e inner o) (hp:pos<=e) (he:e<=s.length) (hs:s.length<=1000000) :
  Calls Tryz.prog 160 #[.pointer (some ⟨b,0,none⟩)] w fun en w'=>en = .returned (.string ⟨(Qaw s pos e).toArray⟩)/\∃ n,w'=w.drewN n:=by
 obtain ⟨nv,h1,h2⟩:=h.ex;obtain ⟨c0,c1,c2,c3,c4,c5,c6⟩:=Qaj h1;have HR:Hid (Qaw s pos e=List.take (e-pos) (List.drop pos s)):=Za rfl;rw [HR.out];clear h h1 h2;go_enter Tryz.func160,Tryz.ntmps160;go_wp2_with fail;go_quiet (fail);go_wp2_with fail;go_ret;exact ⟨by simp,_,rfl⟩
def QtB (B b:Nat) (w:World) (s:List UInt8) (pos e:Nat) (inner:Bool) (o:List Nd) (x:CR) (en:Ending) (w':World):Prop :=
 Below B w w'/\match x with
  | .no err=>en = .returned (.int .i64 0)/\RdBad B b pos err w' o
  | .ok c=>en = .returned (.int .i64 c)/\RdSt B b w' s (pos+1) e inner o
set_option maxRecDepth 100000 in
theorem Qgz (B b:Nat) (most:Nat) (w:World) (s:List UInt8) (pos e:Nat) (inner:Bool) (o:List Nd) (h:RdSt B b w s pos e inner o) (hp:pos<=e) (he:e<=s.length) (hs:s.length<=1000000) :
  Calls Tryz.prog 212 #[.pointer (some ⟨b,0,none⟩),.int .i64 most] w (QtB B b w s pos e inner o (QaK s most inner pos e)):=by
 have HSZ:=Za h.size;have H0:=Za h;obtain ⟨nv,h1,h2⟩:=h.ex;obtain ⟨c0,c1,c2,c3,c4,c5,c6⟩:=Qaj h1;have f1:=Qam h1 1;clear h h1 h2;by_cases hpe:pos=e
 ·have HX:Hid (QaK s most inner pos e = .no (QdA inner 4)):=Za (by unfold QaK;rw [if_pos hpe]<;>rfl);rw [HX.out];have hpe':((pos:Int)==(e:Int))=true:=by rw [beq_iff_eq];omega
  have HC:=Za (fun n=>QdV B b 4 pos (.inr rfl) (w.drewN n) s pos e inner o (H0.out.below (below_drewN Zb n)));clear hpe H0;go_enter Tryz.func212,Tryz.ntmps212;go_wp2_with fail;go_quiet (fail);go_wp2_with fail;((with_reducible refine (HC.out _).mono ?_));rintro en w1 ⟨rfl,hb,ht⟩;have HB:=Za hb;have HT:=Za ht;clear hb ht HC;go_wp2_with fail;go_ret;exact ⟨(below_drewN Zb _).trans HT.out,rfl,HB.out⟩
 ·have hpe':((pos:Int)==(e:Int))=false:=by rw [beq_eq_false_iff_ne];omega
  have hps:pos<s.length:=by omega
  have hps':(pos:Int)<(s.length:Int):=by omega
  obtain ⟨c,hc⟩:∃ c,s.getD pos 0=c:=⟨_,rfl⟩;have hge:∀ h:pos<s.length,s[pos]=c:=fun h=>by rw [<- hc,List.getD_eq_getElem?_getD,List.getElem?_eq_getElem h];rfl
  have hc0:(0:Int)<=(c.toNat:Int):=by omega
  have hc256:(c.toNat:Int)<256:=by have:=c.toNat_lt;omega
  by_cases hm:most<c.toNat
  ·have HX:Hid (QaK s most inner pos e = .no (QdA inner 3)):=Za (by unfold QaK;rw [if_neg hpe,hc,if_pos hm]<;>rfl);rw [HX.out];have hm':(c.toNat:Int)>(most:Int):=by omega
   have HC:=Za (fun n=>QdV B b 3 pos (.inl rfl) (w.drewN n) s pos e inner o (H0.out.below (below_drewN Zb n)));clear hpe H0 hc hm;go_enter Tryz.func212,Tryz.ntmps212;go_wp2_with fail;go_quiet (fail);go_wp2_with fail;go_quiet (fail);go_wp2_with fail;((with_reducible refine (HC.out _).mono ?_));rintro en w1 ⟨rfl,hb,ht⟩;have HB:=Za hb;have HT:=Za ht;clear hb ht HC;go_wp2_with fail;go_ret;exact ⟨(below_drewN Zb _).trans HT.out,rfl,HB.out⟩
  ·have HX:Hid (QaK s most inner pos e = .ok c.toNat):=Za (by unfold QaK;rw [if_neg hpe,hc,if_neg hm]);rw [HX.out];have hm':¬ (c.toNat:Int)>(most:Int):=by omega
   have hcast:((pos+1:Nat):Int)=(pos:Int)+1:=by omega
   have HCC:=Za hcast;obtain ⟨z,hz⟩:∃ z:Int,(pos:Int)=z:=⟨_,rfl⟩;have hz0:0<=z:=by omega
   have hz1:z<1000000:=by omega
   have HZ:=Za hz;have HHC:=Za hc;clear hpe hc hm hs he hp hcast hz;go_enter Tryz.func212,Tryz.ntmps212;go_wp2_with fail;go_quiet (fail);go_wp2_with fail;go_quiet (fail);generalize hW:(w.drewN _).drewN _=W;have HW:Hid (RdSt B b W s pos e inner o):=Za (hW▸H0.out.below (below_drewN (below_drewN Zb _) _));have HBW:Hid (Below B w W):=Za (hW▸below_drewN (below_drewN Zb _) _);clear hW c0 c1 c2 c3 c4 c5 c6 f1 H0;have HS:=Za (HW.out.setPos (pos+1));have HB:=Za (HBW.out.trans (HW.out.set 1 (.int .i64 ((pos+1:Nat):Int))));rw [HCC.out,HZ.out] at HS HB;obtain ⟨nv,h1,h2⟩:=HW.out.ex;obtain ⟨c0,c1,c2,c3,c4,c5,c6⟩:=Qaj h1;have f1:=Qam h1 1;rw [HZ.out] at c1;clear h1 h2 HW HBW;go_upto_region 2 with fail;generalize W.setCell ⟨b,1,none⟩ (.int .i64 (z+1))=W2 at HS HB |-;clear c0 c1 c2 c3 c4 c5 c6 f1;obtain ⟨nv,h1,h2⟩:=HS.out.ex;obtain ⟨c0,c1,c2,c3,c4,c5,c6⟩:=Qaj h1;rw [HCC.out,HZ.out] at c1;have hzt:z.toNat=pos:=by have:=HZ.out;omega
   have hzs:z<(s.length:Int):=by have:=HZ.out;omega
   have hzs2:z+1-1=z:=by omega
   clear h1 h2 HCC;go_quiet (fail);go_wp2_with fail;go_ret;exact ⟨below_drewN HB.out _,rfl,HS.out.below (below_drewN Zb _)⟩
end
end Go.Proofs.YtoohondkpddmcaaGreatDoor
