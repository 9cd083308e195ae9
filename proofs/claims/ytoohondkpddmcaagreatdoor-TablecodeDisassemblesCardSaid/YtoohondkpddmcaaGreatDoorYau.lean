/- Sn Ntr -/
import Derived.Test.YtoohondkpddmcaaGreatDoorYzz
import Derived.Test.YtoohondkpddmcaaGreatDoorYat
import Derived.Test.YtoohondkpddmcaaGreatDoorYaj
namespace Go.Proofs.YtoohondkpddmcaaGreatDoor
set_option maxHeartbeats 32000000
set_option linter.unusedVariables false
set_option linter.unusedSimpArgs false
section
open Go.RowKit
attribute [local go_sem] ByteArray.mk_append_mk Qah Qai Qag
def NSl (w:World) (v:Value) (l:List Nd):Prop :=
 (∃ (a:Option Addr) (cap:Nat),v = .slice a l.length cap/\(l≠[]->∃ b off,a=some ⟨b,off,none⟩/\∀ i (h:i<l.length),TAt w b (off+i * 4) l[i]))/\∀ t∈l,t.str.length<=4000000000/\0<=t.num
theorem TAt.below {w w':World} {b off:Nat} {t:TokI} (h:TAt w b off t) (hb:Below w.heap.size w w'):TAt w' b off t :=
 h.belowB hb (World.block_lt_of_cell? w ⟨b,off,none⟩ h.1)
theorem NSl.below {w w':World} {v:Value} {l:List Nd} (h:NSl w v l) (hb:Below w.heap.size w w'):NSl w' v l:=by
 obtain ⟨⟨a,cap,hv,hc⟩,hs⟩:=h;refine ⟨⟨a,cap,hv,fun hn=>?_⟩,hs⟩;obtain ⟨b,off,ha,hk⟩:=hc hn;exact ⟨b,off,ha,fun i hi=>(hk i hi).below hb⟩
theorem NodesI.sl {w:World} {B:Nat} {v:Value} {l:List Nd} (h:NodesI w B v l) (hs:∀ t∈l,t.str.length<=4000000000/\0<=t.num):NSl w v l:=by
 obtain ⟨a,c,rfl⟩:=h.form;refine ⟨⟨a,c,rfl,fun hn=>?_⟩,hs⟩;rcases h.2 with ⟨hv,h0⟩|⟨g,cap,cur,hv,hb,hg,hn2,hm,hs2,ht⟩
 ·exact absurd (List.eq_nil_of_length_eq_zero h0) hn
 ·injection hv with e1 e2 e3;refine ⟨g,0,e1,fun i hi=>?_⟩;obtain ⟨k0,k1,k2,k3⟩:=QqS l i hi;rw [<- ht] at k0 k1 k2 k3;rw [List.getElem?_take,if_pos (by omega)] at k0 k1 k2 k3;rw [Nat.zero_add];refine ⟨?_,?_,?_,?_⟩
  ·rw [cell_of_row w g _ cur _ (0,0) hg];simpa using k0
  ·rw [cell_of_row w g _ cur _ (0,0) hg];simpa using k1
  ·rw [cell_of_row w g _ cur _ (0,0) hg];simpa using k2
  ·rw [cell_of_row w g _ cur _ (0,0) hg];simpa using k3
def Qep (w:World) (x:Option Nat) (e:Ending) (w':World):Prop:=e = .returned (.tuple #[.int .i64 (x.getD 0:Nat),.bool x.isSome])/\Below w.heap.size w w'
def QrE (m:Int) (p:List Nd) (d:Nat) (dep:Int):Prop:=∀ (kd:UInt8) (i:Nat) (v:Value) (w:World),NSl w v p->SynG m w->i<=p.length ->
 Calls Tryz.prog 81 #[v,.int .i64 i,.int .u8 kd.toNat,.int .i64 dep] w (Qep w (Qaz p d false kd i))
def Qvr (m:Int) (p:List Nd) (d:Nat) (dep:Int):Prop:=∀ (kd:UInt8) (i:Nat) (v:Value) (w:World),NSl w v p->SynG m w->i<=p.length ->
 Calls Tryz.prog 127 #[v,.int .i64 i,.int .u8 kd.toNat,.int .i64 dep] w (Qep w (Qaz p d (QaZ kd) kd i))
theorem Qmh (p:List Nd) (d:Nat) (b:Bool) (kd:UInt8) (i:Nat) (h:p.length<=i):Qaz p d b kd i=none:=by
 cases d with
 | zero=>rfl
 | succ d=>cases b<;>(rw [Qaz,List.getElem?_eq_none h])
theorem QrF (m:Int) (p:List Nd) (hp:p.length<=1000000) (d:Nat) (dep:Int) (kd:UInt8) (i:Nat) (v:Value) (w:World) (hv:NSl w v p) (hi:p.length<=i) (hi2:i<=1000000) (hd : -1000<=dep/\dep<=1000) :
  Calls Tryz.prog 81 #[v,.int .i64 i,.int .u8 kd.toNat,.int .i64 dep] w (Qep w (Qaz p d false kd i)):=by
 rw [Qmh p d false kd i hi];obtain ⟨⟨a,cap,rfl,hc⟩,hs⟩:=hv;have hi':(p.length:Int)<=(i:Int):=by omega
 clear hc hs;go_enter Tryz.func81,Tryz.ntmps81;go_wp2_with fail;go_ret2;exact ⟨rfl,Zb⟩
theorem Qs5 (m:Int) (p:List Nd) (hp:p.length<=1000000) (dep:Int) (hd:32<dep) (kd:UInt8) (i:Nat) (v:Value) (w:World) (hv:NSl w v p) (hi:i<p.length) (hd2:dep<=1000) :
  Calls Tryz.prog 81 #[v,.int .i64 i,.int .u8 kd.toNat,.int .i64 dep] w (Qep w none):=by
 obtain ⟨⟨a,cap,rfl,hc⟩,hs⟩:=hv;have hi':(i:Int)<(p.length:Int):=by omega
 clear hc hs;go_enter Tryz.func81,Tryz.ntmps81;go_wp2_with fail;go_ret2;exact ⟨rfl,Zb⟩
theorem QrG (m:Int) (p:List Nd) (hp:p.length<=1000000) (d:Nat) (dep:Int) (kd:UInt8) (hk:QaZ kd=true) (i:Nat) (v:Value) (w:World) (hv:NSl w v p) (hi:p.length<=i) (hi2:i<=1000000) (hd : -1000<=dep/\dep<=1000) :
  Calls Tryz.prog 127 #[v,.int .i64 i,.int .u8 kd.toNat,.int .i64 dep] w (Qep w (Qaz p d true kd i)):=by
 rw [Qmh p d true kd i hi];obtain ⟨⟨a,cap,rfl,hc⟩,hs⟩:=hv;have hi':(p.length:Int)<=(i:Int):=by omega
 have HI:=Za (QgV kd true (Za hk));clear hc hs hk;go_enter Tryz.func127,Tryz.ntmps127;go_wp2_with fail;((with_reducible refine (HI.out _).mono ?_));rintro e w1 ⟨rfl,rfl⟩;go_wp2_with fail;go_ret2;exact ⟨rfl,Zb⟩
theorem Qs6 (m:Int) (p:List Nd) (hp:p.length<=1000000) (dep:Int) (hd:32<dep) (kd:UInt8) (hk:QaZ kd=true) (i:Nat) (v:Value) (w:World) (hv:NSl w v p) (hi:i<p.length) (hd2:dep<=1000) :
  Calls Tryz.prog 127 #[v,.int .i64 i,.int .u8 kd.toNat,.int .i64 dep] w (Qep w none):=by
 obtain ⟨⟨a,cap,rfl,hc⟩,hs⟩:=hv;have hi':(i:Int)<(p.length:Int):=by omega
 have HI:=Za (QgV kd true (Za hk));clear hc hs hk;go_enter Tryz.func127,Tryz.ntmps127;go_wp2_with fail;((with_reducible refine (HI.out _).mono ?_));rintro e w1 ⟨rfl,rfl⟩;go_wp2_with fail;go_ret2;exact ⟨rfl,Zb⟩
theorem QpS {n:Nd} {ks:List UInt8} (h:Qb3 n=some ks):ks.length<=10:=by
 unfold Qb3 at h;split at h
 ·split at h
  ·injection h with h;rw [<- h,List.length_replicate];omega
  ·cases h
 split at h
 ·split at h
  ·injection h with h;rw [<- h,List.length_replicate];omega
  ·cases h
 split at h
 ·injection h with h;rw [<- h];decide
 split at h
 ·injection h with h;obtain ⟨a,ha⟩:=QkL n.kind;rw [<- h];exact ha.2.2.2
 ·cases h
set_option maxRecDepth 100000 in
theorem Qs7 (m:Int) (p:List Nd) (hp:p.length<=1000000) (d:Nat) (dep:Int) (hd0 : -1000<=dep) (hd1:dep<=32) (ih:Qvr m p d (dep+1)) (kd:UInt8) (i:Nat) (v:Value) (w:World) (hv:NSl w v p) (hm:SynG m w) (hi:i<p.length) :
  Calls Tryz.prog 81 #[v,.int .i64 i,.int .u8 kd.toNat,.int .i64 dep] w (Qep w (Qaz p (d+1) false kd i)):=by
 have IH:=Za ih;obtain ⟨X,hX⟩:∃ X,Hid (Qaz p (d+1) false kd i=X):=⟨_,Za rfl⟩;have HX0:Hid (X=if Qaq kd p[i].kind=true/\Qbg p[i] kd=true then (match Qb3 p[i] with
  | none=>none
  | some ks=>QbC (fun k j=>Qaz p d (QaZ k) k j) ks (i+1)) else none):=Za (by rw [<- hX.out,Qaz,List.getElem?_eq_getElem hi]<;>rfl)
 have HV0:=Za hv;obtain ⟨hts,htn⟩:=hv.2 p[i] (List.getElem_mem hi);obtain ⟨a,cap,rfl,hc⟩:=hv.1;obtain ⟨g,off,rfl,hk⟩:=hc (by rintro rfl;simp at hi);obtain ⟨d0,d1,d2,d3⟩:=hk i hi;have hi':(i:Int)<(p.length:Int):=by omega
 clear hc hk hv ih;obtain ⟨T,hT⟩:∃ T,p[i]=T:=⟨_,rfl⟩;rw [hT] at d0 d1 d2 d3 hts htn HX0;obtain ⟨nk,nn,ns,np⟩:=T;simp only at d0 d1 d2 d3 hts htn HX0;obtain ⟨L,hL⟩:∃ L,p.length=L:=⟨_,rfl⟩;have HL:=Za hL;rw [hL] at hi hi' hp;have HBA:Hid (Below w.heap.size w (w.alloc (Qae nk nn ns np))):=Za (Zb.alloc Zc _);have HE:=Za (heap_alloc_new w (Qae nk nn ns np));have HG:=Za (hm.below HBA.out hm.low);have HV:=Za (HV0.out.below HBA.out);have hsz:w.heap.size<=(w.alloc (Qae nk nn ns np)).heap.size:=HBA.out.size;obtain ⟨P,hP⟩:∃ P,w.heap.size=P:=⟨_,rfl⟩;have HPE:=Za hP;have HSZ:=Za hsz;clear hm hT HV0 hsz;go_enter Tryz.func81,Tryz.ntmps81;rw [hL] at HV |-;clear hL;go_upto_region 4 with fail;generalize w.alloc (Qae nk nn ns np)=W at *;simp only [hP] at HBA HE HSZ |-;clear hP d0 d1 d2 d3;obtain ⟨e0,e1,e2,e3⟩:=Qac HE.out;obtain ⟨ac,hac⟩:∃ z,Hid (Qaq kd nk=z):=⟨_,Za rfl⟩;have HA:=Za (fun w=>Quu kd nk ac hac w);cases ac with
 | false =>
   have HX:Hid (X=none):=Za (by rw [HX0.out,if_neg (fun h=>by rw [hac.out] at h;cases h.1)]);go_wp2_with fail;((with_reducible refine (HA.out _).mono ?_));rintro e w1 ⟨rfl,rfl⟩;go_wp2_with fail;go_ret2;rw [hX.out,HX.out];exact ⟨rfl,by rw [HPE.out];exact HBA.out⟩
 | true =>
 obtain ⟨fb,hfb⟩:∃ z,Hid (Qbg ⟨nk,nn,ns,np⟩ kd=z):=⟨_,Za rfl⟩;have HF:=Za (QnJ nk nn np ns kd W m HG.out hts htn);rw [hfb.out] at HF;unfold Qbz at HF;go_wp2_with fail;((with_reducible refine (HA.out _).mono ?_));rintro e w1 ⟨rfl,rfl⟩;go_wp2_with fail;((with_reducible refine HF.out.mono ?_));rintro e w2 ⟨rfl,hb2⟩;have HE2:=Za (Qad HE.out hb2);have HG2:=Za (HG.out.below hb2 HG.out.low);have HV2:=Za (HV.out.below hb2);have HB2:Hid (Below P w w2):=Za (HBA.out.trans (hb2.mono HSZ.out));have HS2:Hid (P<=w2.heap.size):=Za (Nat.le_trans HSZ.out hb2.size);clear hb2 e0 e1 e2 e3 HE HG HV HBA HSZ HF HA;cases fb with
 | false =>
   have HX:Hid (X=none):=Za (by rw [HX0.out,if_neg (fun h=>by rw [hfb.out] at h;cases h.2)]);go_wp2_with fail;go_ret2;rw [hX.out,HX.out];exact ⟨rfl,by rw [HPE.out];exact HB2.out⟩
 | true =>
 have HX1:Hid (X=match Qb3 ⟨nk,nn,ns,np⟩ with
  | none=>none
  | some ks=>QbC (fun k j=>Qaz p d (QaZ k) k j) ks (i+1)):=Za (by rw [HX0.out,if_pos ⟨hac.out,hfb.out⟩])
 obtain ⟨e0,e1,e2,e3⟩:=Qac HE2.out;have HK:=Za (QrD nk nn np ns w2 m HG2.out);unfold Qbz Qjw at HK;clear HX0;go_wp2_with fail;((with_reducible refine HK.out.mono ?_));rintro e w3 ⟨ks,rfl,hks,hb3⟩;have HG3:=Za (HG2.out.below hb3 HG2.out.low);have HV3:=Za (HV2.out.below hb3);have HB3:Hid (Below P w w3):=Za (HB2.out.trans (hb3.mono HS2.out));have HS3:Hid (P<=w3.heap.size):=Za (Nat.le_trans HS2.out hb3.size);clear hb3 e0 e1 e2 e3 HG2 HV2 HB2 HS2 HE2;cases hkk:Qb3 ⟨nk,nn,ns,np⟩ with
 | none =>
   have HX:Hid (X=none):=Za (by rw [HX1.out,hkk]);clear hks;simp only [Option.isSome_none];go_wp2_with fail;go_ret2;rw [hX.out,HX.out];exact ⟨rfl,by rw [HPE.out];exact HB3.out⟩
 | some ks2 =>
   obtain rfl:=hks _ hkk;have HX2:Hid (QbC (fun k j=>Qaz p d (QaZ k) k j) ks (i+1)=X):=Za (by rw [HX1.out,hkk]);have hkl:=QpS hkk;obtain ⟨N,hN⟩:∃ N,ks.length=N:=⟨_,rfl⟩;have HN:=Za hN;rw [hN] at hkl;clear hks hkk HX1 HK;simp only [Option.isSome_some];go_wp2_with fail;go_loopw [13,49] (fun x y wr=>∃ (j q:Nat),x = .int .i64 q/\y = .int .i64 j/\j<=N/\q<=L/\Hid (QbC (fun k j=>Qaz p d (QaZ k) k j) (ks.drop j) q=X)/\Hid (NSl wr (.slice (some ⟨g,off,none⟩) L cap) p)/\Hid (SynG m wr)/\Hid (Below P w wr)/\Hid (P<=wr.heap.size)) (fun _ y _=>N-(intOf y).toNat)
   case atStart=>exact ⟨0,i+1,by simp,rfl,by omega,by omega,HX2,HV3,HG3,HB3,HS3⟩
   case round =>
    clear HX2 HV3 HG3 HB3 HS3;obtain ⟨j,q,rfl,rfl,hj,hq,HXJ,HV,HG,HB,HS⟩:=hrel;obtain ⟨w4,rfl⟩:∃ y:World,y=wr:=⟨_,rfl⟩;by_cases hlt:j<N
    ·have hlt':(j:Int)<(N:Int):=by omega
     have hjk:j<ks.length:=by rw [hN];exact hlt
     obtain ⟨kj,hkj⟩:∃ x,ks[j]=x:=⟨_,rfl⟩;have HXK:Hid (X=match Qaz p d (QaZ kj) kj q with|none=>none|some z=>QbC (fun k j=>Qaz p d (QaZ k) k j) (ks.drop (j+1)) z):=Za (by
      rw [<- HXJ.out,List.drop_eq_getElem_cons hjk,QbC,hkj]<;>rfl)
     have HC:=Za (IH.out kj q _ w4 HV.out HG.out (by rw [HL.out];exact hq));unfold Qep at HC;cases hx:Qaz p d (QaZ kj) kj q with
     | none =>
       rw [hx] at HC HXK;have HX:Hid (X=none):=HXK;clear hx HXJ HXK;simp only [Option.isSome_none,Option.getD_none] at HC;go_wp2_with fail;((with_reducible refine HC.out.mono ?_));rintro e w5 ⟨rfl,hb5⟩;have HB5:Hid (Below P w w5):=Za (HB.out.trans (hb5.mono HS.out));clear hb5;go_wp2_with fail;go_ret2;rw [hX.out,HX.out];exact ⟨rfl,by rw [HPE.out];exact HB5.out⟩
     | some z =>
       rw [hx] at HC HXK;have hz:=(Qa5 p d (QaZ kj) kj q z hx).2;rw [HL.out] at hz;have HX5:Hid (QbC (fun k j=>Qaz p d (QaZ k) k j) (ks.drop (j+1)) z=X):=Za HXK.out.symm;clear hx HXJ HXK;simp only [Option.isSome_some,Option.getD_some] at HC;go_wp2_with fail;((with_reducible refine HC.out.mono ?_));rintro e w5 ⟨rfl,hb5⟩;have HB5:Hid (Below P w w5):=Za (HB.out.trans (hb5.mono HS.out));have HV5:=Za (HV.out.below hb5);have HG5:=Za (HG.out.below hb5 HG.out.low);have HS5:Hid (P<=w5.heap.size):=Za (Nat.le_trans HS.out hb5.size);clear hb5 HC;go_wp2_with fail;go_roundw
       case rel=>exact ⟨j+1,z,by go_num,by go_num,by omega,hz,HX5,HV5,HG5,HB5,HS5⟩
       case measure=>simp [intOf];omega
    ·obtain rfl:j=N:=by omega
     have HX5:Hid (X=some q):=Za (by rw [<- HXJ.out,List.drop_eq_nil_of_le (by rw [HN.out];exact Nat.le_refl _),QbC]);clear HXJ;go_wp2_with fail;go_ret2;rw [hX.out,HX5.out];exact ⟨rfl,by rw [HPE.out];exact HB.out⟩
set_option maxRecDepth 100000 in
theorem Qs8 (m:Int) (p:List Nd) (hp:p.length<=1000000) (d:Nat) (dep:Int) (hd0 : -1000<=dep) (hd1:dep<=32) (ih:QrE m p d (dep+1)) (kd:UInt8) (hkb:QaZ kd=true) (i:Nat) (v:Value) (w:World) (hv:NSl w v p) (hm:SynG m w) (hi:i<p.length) :
  Calls Tryz.prog 127 #[v,.int .i64 i,.int .u8 kd.toNat,.int .i64 dep] w (Qep w (Qaz p (d+1) true kd i)):=by
 have IH:=Za ih;have HI:=Za (QgV kd true (Za hkb));obtain ⟨X,hX⟩:∃ X,Hid (Qaz p (d+1) true kd i=X):=⟨_,Za rfl⟩;have HX0:Hid (X=if p[i].kind=4/\p[i].num=0/\p[i].str=[]/\0<=p[i].pos then Qb4 (Qaz p d false kd) p[i].pos.toNat (i+1) else none):=Za (by rw [<- hX.out,Qaz,List.getElem?_eq_getElem hi]);have HV0:=Za hv;obtain ⟨a,cap,rfl,hc⟩:=hv.1;obtain ⟨g,off,rfl,hk⟩:=hc (by rintro rfl;simp at hi);obtain ⟨d0,d1,d2,d3⟩:=hk i hi;have hi':(i:Int)<(p.length:Int):=by omega
 clear hc hk hv ih hkb;obtain ⟨T,hT⟩:∃ T,p[i]=T:=⟨_,rfl⟩;rw [hT] at d0 d1 d2 d3 HX0;obtain ⟨nk,nn,ns,np⟩:=T;simp only at d0 d1 d2 d3 HX0;obtain ⟨L,hL⟩:∃ L,p.length=L:=⟨_,rfl⟩;have HL:=Za hL;rw [hL] at hi hi' hp;have HBA:Hid (Below w.heap.size w (w.alloc (Qae nk nn ns np))):=Za (Zb.alloc Zc _);have HE:=Za (heap_alloc_new w (Qae nk nn ns np));have HG:=Za (hm.below HBA.out hm.low);have HV:=Za (HV0.out.below HBA.out);have hsz:w.heap.size<=(w.alloc (Qae nk nn ns np)).heap.size:=HBA.out.size;obtain ⟨P,hP⟩:∃ P,w.heap.size=P:=⟨_,rfl⟩;have HPE:=Za hP;have HSZ:=Za hsz;clear hm hT HV0 hsz;go_enter Tryz.func127,Tryz.ntmps127;rw [hL] at HV |-;clear hL;have hnl:decide (L<=i)=false:=decide_eq_false (by omega);have hnd:decide (32<dep)=false:=decide_eq_false (by omega);go_wp2_with fail;((with_reducible refine (HI.out _).mono ?_));rintro e w1 ⟨rfl,rfl⟩;go_upto_region 6 with fail;generalize w.alloc (Qae nk nn ns np)=W at *;simp only [hP] at HBA HE HSZ |-;clear hP d0 d1 d2 d3;obtain ⟨e0,e1,e2,e3⟩:=Qac HE.out;by_cases h4:nk=4/\nn=0/\ns=[]/\0<=np
 ·obtain ⟨rfl,rfl,rfl,hn0⟩:=h4;obtain ⟨N,rfl⟩:∃ N:Nat,np=N:=⟨np.toNat,by omega⟩;have HX2:Hid (Qb4 (Qaz p d false kd) N (i+1)=X):=Za (by rw [HX0.out,if_pos ⟨rfl,rfl,rfl,hn0⟩]<;>rfl);clear HX0;go_wp2_with fail;go_loopw [11,58] (fun x y wr=>∃ (j q:Nat),x = .int .i64 q/\y = .int .i64 j/\j<=N/\j<=q/\q<=L/\Hid (Qb4 (Qaz p d false kd) (N-j) q=X)/\Hid (NSl wr (.slice (some ⟨g,off,none⟩) L cap) p)/\Hid (SynG m wr)/\Hid (Below P w wr)/\Hid (P<=wr.heap.size)) (fun _ y _=>N-(intOf y).toNat)
  case atStart=>exact ⟨0,i+1,by simp,rfl,by omega,by omega,by omega,HX2,HV,HG,HBA,HSZ⟩
  case round =>
   clear HX2 HV HG HBA HSZ HE e0 e1 e2 e3;obtain ⟨j,q,rfl,rfl,hj,hjq,hq,HXJ,HV,HG,HB,HS⟩:=hrel;obtain ⟨w4,rfl⟩:∃ y:World,y=wr:=⟨_,rfl⟩;by_cases hlt:j<N
   ·have hlt':(j:Int)<(N:Int):=by omega
    have HXK:Hid (X=match Qaz p d false kd q with|none=>none|some z=>Qb4 (Qaz p d false kd) (N-(j+1)) z):=Za (by
     rw [<- HXJ.out,show N-j=(N-(j+1))+1 by omega,Qb4]<;>rfl)
    have HC:=Za (IH.out kd q _ w4 HV.out HG.out (by rw [HL.out];exact hq));unfold Qep at HC;cases hx:Qaz p d false kd q with
    | none =>
      rw [hx] at HC HXK;have HX:Hid (X=none):=HXK;clear hx HXJ HXK;simp only [Option.isSome_none,Option.getD_none] at HC;go_wp2_with fail;((with_reducible refine HC.out.mono ?_));rintro e w5 ⟨rfl,hb5⟩;have HB5:Hid (Below P w w5):=Za (HB.out.trans (hb5.mono HS.out));clear hb5;go_wp2_with fail;go_ret2;rw [hX.out,HX.out];exact ⟨rfl,by rw [HPE.out];exact HB5.out⟩
    | some z =>
      rw [hx] at HC HXK;have hz:=(Qa5 p d false kd q z hx).2;have hqz:=(Qa5 p d false kd q z hx).1;rw [HL.out] at hz;have HX5:Hid (Qb4 (Qaz p d false kd) (N-(j+1)) z=X):=Za HXK.out.symm;clear hx HXJ HXK;simp only [Option.isSome_some,Option.getD_some] at HC;go_wp2_with fail;((with_reducible refine HC.out.mono ?_));rintro e w5 ⟨rfl,hb5⟩;have HB5:Hid (Below P w w5):=Za (HB.out.trans (hb5.mono HS.out));have HV5:=Za (HV.out.below hb5);have HG5:=Za (HG.out.below hb5 HG.out.low);have HS5:Hid (P<=w5.heap.size):=Za (Nat.le_trans HS.out hb5.size);clear hb5 HC;have hjN:(j:Int)+1<=N:=by omega
      go_wp2_with fail;go_roundw
      case rel=>exact ⟨j+1,z,by go_num,by go_num,by omega,by omega,hz,HX5,HV5,HG5,HB5,HS5⟩
      case measure=>simp [intOf];omega
   ·obtain rfl:j=N:=by omega
    have HX5:Hid (X=some q):=Za (by rw [<- HXJ.out,Nat.sub_self,Qb4]);clear HXJ;go_wp2_with fail;go_ret2;rw [hX.out,HX5.out];exact ⟨rfl,by rw [HPE.out];exact HB.out⟩
 ·have HX:Hid (X=none):=Za (by rw [HX0.out,if_neg h4]);have HN4:=Za h4;clear HX0 h4;by_cases g1:nk=4
  ·subst g1;by_cases g2:nn=0
   ·subst g2;cases ns with
    | nil =>
      have g3:np<0:=by
       by_cases h:np<0
       ·exact h
       ·exact absurd ⟨rfl,rfl,rfl,by omega⟩ HN4.out
      go_wp2_with fail;go_ret2;rw [hX.out,HX.out];exact ⟨rfl,by rw [HPE.out];exact HBA.out⟩
    | cons c r =>
      go_wp2_with fail;go_ret2;rw [hX.out,HX.out];exact ⟨rfl,by rw [HPE.out];exact HBA.out⟩
   ·have f2:(nn != 0)=true:=bne_iff_ne.2 g2;clear g2;go_wp2_with fail;go_ret2;rw [hX.out,HX.out];exact ⟨rfl,by rw [HPE.out];exact HBA.out⟩
  ·have f1:(nk != 4)=true:=bne_iff_ne.2 g1;clear g1;go_wp2_with fail;go_ret2;rw [hX.out,HX.out];exact ⟨rfl,by rw [HPE.out];exact HBA.out⟩
theorem Qmi (m:Int) (p:List Nd) (d:Nat) (dep:Int) (he:QrE m p d dep) (kd:UInt8) (hkb:QaZ kd=false) (i:Nat) (v:Value) (w:World) (hv:NSl w v p) (hm:SynG m w) (hi:i<=p.length) :
  Calls Tryz.prog 127 #[v,.int .i64 i,.int .u8 kd.toNat,.int .i64 dep] w (Qep w (Qaz p d false kd i)):=by
 have HC:=Za (he kd i v w hv hm hi);have HI:=Za (QgV kd false (Za hkb));unfold Qep at HC;obtain ⟨X,hX⟩:∃ X,Hid (Qaz p d false kd i=X):=⟨_,Za rfl⟩;rw [hX.out] at HC;obtain ⟨x1,hx1⟩:∃ z:Nat,X.getD 0=z:=⟨_,rfl⟩;obtain ⟨x2,hx2⟩:∃ z,X.isSome=z:=⟨_,rfl⟩;rw [hx1,hx2] at HC;have H1:=Za hx1;have H2:=Za hx2;clear hv hm hkb hx1 hx2;go_enter Tryz.func127,Tryz.ntmps127;go_wp2_with fail;((with_reducible refine (HI.out _).mono ?_));rintro e w1 ⟨rfl,rfl⟩;go_wp2_with fail;((with_reducible refine HC.out.mono ?_));rintro e w2 ⟨rfl,hb⟩;have HB:=Za hb;clear hb;go_wp2_with fail;go_ret2;rw [hX.out];exact ⟨by rw [H1.out,H2.out];rfl,HB.out⟩
theorem Qmj (m:Int) (p:List Nd) (hp:p.length<=1000000):∀ (d:Nat) (dep:Int),dep+d=33->-900<=dep->QrE m p d dep/\Qvr m p d dep
 | 0,dep,h,h0=>by
   have he:QrE m p 0 dep:=fun kd i v w hv hm hi=>by
    rcases Nat.lt_or_ge i p.length with h2|h2
    ·exact Qs5 m p hp dep (by omega) kd i v w hv h2 (by omega)
    ·exact QrF m p hp 0 dep kd i v w hv h2 (by omega) (by omega)
   refine ⟨he,fun kd i v w hv hm hi=>?_⟩;cases hk:QaZ kd with
   | false=>exact Qmi m p 0 dep he kd hk i v w hv hm hi
   | true =>
     rcases Nat.lt_or_ge i p.length with h2|h2
     ·exact Qs6 m p hp dep (by omega) kd hk i v w hv h2 (by omega)
     ·exact QrG m p hp 0 dep kd hk i v w hv h2 (by omega) (by omega)
 | d+1,dep,h,h0=>by
   obtain ⟨ie,ic⟩:=Qmj m p hp d (dep+1) (by omega) (by omega);have he:QrE m p (d+1) dep:=fun kd i v w hv hm hi=>by
    rcases Nat.lt_or_ge i p.length with h2|h2
    ·exact Qs7 m p hp d dep (by omega) (by omega) ic kd i v w hv hm h2
    ·exact QrF m p hp (d+1) dep kd i v w hv h2 (by omega) (by omega)
   refine ⟨he,fun kd i v w hv hm hi=>?_⟩;cases hk:QaZ kd with
   | false=>exact Qmi m p (d+1) dep he kd hk i v w hv hm hi
   | true =>
     rcases Nat.lt_or_ge i p.length with h2|h2
     ·exact Qs8 m p hp d dep (by omega) (by omega) ie kd hk i v w hv hm h2
     ·exact QrG m p hp (d+1) dep kd hk i v w hv h2 (by omega) (by omega)
end
section
open Go.RowKit
attribute [local go_sem] ByteArray.mk_append_mk Qah Qai Qag
theorem QuK (w:World) (o:Obj):Below w.heap.size w (w.alloc o)/\(w.alloc o).heap[w.heap.size]?=some o :=
 ⟨Zb.alloc Zc _,heap_alloc_new _ _⟩
theorem StrsAt.one {w:World} {b:Nat} {x:List UInt8} (h:w.heap[b]?=some (.cells #[QbT x] 9 (0,0))):StrsAt w (.slice (some ⟨b,0,none⟩) 1 1) [x]:=by
 refine ⟨_,1,rfl,by simp,⟨(fun h=>by cases h),by simp⟩,fun _=>⟨b,0,rfl,fun k hk=>?_⟩⟩;simp only [List.length_cons,List.length_nil] at hk;obtain rfl:k=0:=by omega
 exact (cell_of_row w b 0 _ _ _ h).trans rfl
theorem Qg5 {w:World} {B e z:Nat} {v:Value} {n:Nat} {xs:List Value} (h:w.ownsRow B e z v n xs):∃ (a:Option Addr) (c:Nat),v = .slice a n c:=by
 rcases h.2 with ⟨h1,rfl⟩|⟨g,cap,cur,h1,_⟩
 ·exact ⟨_,_,h1⟩
 ·exact ⟨_,_,h1⟩
theorem Qjx {x:List UInt8} (h:QaV x=true):x.length<=4:=by
 cases x with
 | nil=>simp
 | cons c r =>
   unfold QaV at h;simp only [Bool.and_eq_true,decide_eq_true_eq] at h;simp only [List.length_cons];omega
def SameAt (W:World) (a:Addr) (x:World):Prop:=x.cell? a=W.cell? a
theorem SameAt.some (W:World) (a:Addr):(∃ x,SameAt W a x)=True:=by simp only [eq_iff_iff,iff_true];exact ⟨W,rfl⟩
theorem SameAt.all (W:World) (a:Addr) (p:Prop):(∀ x,SameAt W a x->p)=p:=by
 apply propext;exact ⟨fun h=>h W rfl,fun h _ _=>h⟩
attribute [local go_sem] SameAt.some SameAt.all
theorem Qfc:∀ (r:List UInt8),∃ x y,r=x++y/\(∀ c∈x,c≠46)/\((y=[]/\QaE r=[x])\/∃ t,y=46::t/\QaE r=x::QaE t)
 | []=>⟨[],[],rfl,by simp,.inl ⟨rfl,rfl⟩⟩
 | c::r=>by
   by_cases hc:c=46
   ·subst hc;exact ⟨[],46::r,rfl,by simp,.inr ⟨r,rfl,Qc9 r⟩⟩
   ·obtain ⟨x,y,h1,h2,h3⟩:=Qfc r;refine ⟨c::x,y,by rw [h1];rfl,?_,?_⟩
    ·intro d hd;rcases List.mem_cons.1 hd with rfl|hd
     ·exact hc
     ·exact h2 d hd
    ·rcases h3 with ⟨h3,h4⟩|⟨t,h3,h4⟩
     ·exact .inl ⟨h3,Qbu c r hc x [] h4⟩
     ·exact .inr ⟨t,h3,Qbu c r hc x _ h4⟩
theorem Qgu (tmps:Array Value) (w:World) (b:Nat) (c0 c1 c2:Value) (h2:tmps.getD 2 undef = .pointer (some ⟨b,0,none⟩)) (hb:w.heap[b]?=some (.cells #[c0,c1,c2] 128 (0,0))) :
  (results Tryz.f91 tmps).run Tryz.prog w = .ok (.tuple #[.agg #[c0,c1,c2],tmps.getD 3 undef]) w:=by
 obtain ⟨e0,e1,e2⟩:=QaT hb;have h2':tmps[2]?.getD undef = .pointer (some ⟨b,0,none⟩):=by rw [<- h2];simp
 simp [results];go_simp
theorem QAt.bel {w wr:World} {root:Bool} {up:Int} {v:Value} (h:QAt w wr root up v):Below w.heap.size w wr:=h.2.2
theorem QAt.grown {w wr w2:World} {root:Bool} {up:Int} {v:Value} {row:Option Nat} (h:QAt w wr root up v) (hg:wr.grownBy w2 row) (hr:∀ g,row=some g->w.heap.size+2<=g):QAt w w2 root up v :=
 ⟨QfK h.1 hg (fun e=>by have:=hr _ e.symm;omega),QfK h.2.1 hg (fun e=>by have:=hr _ e.symm;omega),h.2.2.grown hg h.2.2.size (fun k e=>by have:=hr k e;omega)⟩
theorem QAt.lt {w wr:World} {root:Bool} {up:Int} {v:Value} (h:QAt w wr root up v):w.heap.size+2<=wr.heap.size:=lt_of_block h.2.1
theorem Qjy (c:UInt8) (d:UInt8):((c.toNat:Int)==(d.toNat:Int))=(d==c):=by
 rw [Bool.eq_iff_iff,beq_iff_eq,beq_iff_eq];constructor
 ·intro h;exact (UInt8.toNat_inj.1 (by omega)).symm
 ·rintro rfl;rfl
theorem Qg6 (c d:UInt8) (t:List UInt8):Lib.hasPrefix (c::t) [d]=(d==c):=by simp [Lib.hasPrefix,List.isPrefixOf]
theorem Qgv {root:Bool} {up:Int} {l:List (List UInt8)} {x:List UInt8} (hx:x∈l) (h:QaV x=false):QaI root up l=false:=by
 cases hv:QaI root up l
 ·rfl
 ·rw [QbN hv x hx] at h;cases h
def QuL (s:List UInt8) (st i:Nat) (dn:List (List UInt8)):Prop :=
 (∀ x∈dn,QaV x=true)/\2 * dn.length<=i/\st<=i/\i<=s.length+1/\((i<s.length/\QaE (Qbv s)=dn++QaE (s.drop i)/\(st<i->s[i-1]?=some 46))\/(s.length<=i/\QaG s=dn))
set_option maxRecDepth 100000 in
theorem Qfd (s:List UInt8) (w:World) (hs:s.length<=1048576) :
  Calls Tryz.prog 91 #[.string ⟨s.toArray⟩] w (Qck w s):=by
 have HQ:=Za (QAt.start w);obtain ⟨root,hroot⟩:∃ b,Hid (QaJ s=b):=⟨_,Za rfl⟩;obtain ⟨N,hN⟩:∃ b,Hid (Qbp s=b):=⟨_,Za rfl⟩;obtain ⟨R,hR⟩:∃ b,Hid (Qbv s=b):=⟨_,Za rfl⟩;obtain ⟨bs,hbs⟩:∃ b:Nat,Hid ((if root=true then 1 else 0)=b):=⟨_,Za rfl⟩;have hbsl:bs<=s.length:=by
  rw [<- hbs.out];split
  ·next h => 
   have:=hroot.out;rw [h] at this;unfold QaJ at this;cases s with
   | nil=>cases this
   | cons=>simp
  ·omega
 have HJ:Hid (CarJ root N R 0 (s.drop bs)):=Za (by
  rw [<- hN.out,<- hR.out,<- hbs.out,<- hroot.out];refine ⟨fun h=>?_,fun h=>?_⟩
  ·refine ⟨by unfold Qbp;rw [if_pos h],?_⟩;unfold Qbv;rw [if_pos h,if_pos h]
  ·have e1:Qbp s=(s.takeWhile (·==94)).length:=by unfold Qbp;rw [h];rfl
   have e2:Qbv s=s.dropWhile (·==94):=by unfold Qbv;rw [h];rfl
   rw [e1,e2,if_neg (by rw [h];decide),List.drop_zero];exact ⟨by omega,rfl⟩)
 go_enter Tryz.func91,Tryz.ntmps91;go_upto_region 3 with fail;obtain ⟨w0,hw0⟩:∃ x,((w.alloc (.cells #[.bool false,.int .i64 0,.slice none 0 0] 128)).alloc (.cells #[.bool false,.int .i64 0,.slice none 0 0] 128))=x:=⟨_,rfl⟩;rw [hw0] at HQ |-;clear hw0;go_cut [15] (fun z wx=>z = .bool root/\w0=wx)
 case first =>
  cases s with
  | nil =>
    have hr0:root=false:=hroot.out.symm;subst hr0;go_wp2_with fail;go_meet;exact ⟨rfl,rfl⟩
  | cons c t =>
    have hcc:((c.toNat:Int)==92)=root:=by
     rw [<- hroot.out,show (92:Int)=((92:UInt8).toNat:Int) from rfl,Qjy];exact (Qg6 c 92 t).symm
    go_wp2_with fail;go_meet;exact ⟨rfl,rfl⟩
 case rest =>
  obtain ⟨rfl,rfl⟩:=hcut;obtain ⟨w1,rfl⟩:∃ x:World,x=w0:=⟨_,rfl⟩;go_upto_if 15 with fail;go_cut [5] (fun z wx=>z = .int .i64 bs/\Hid (QAt w wx root 0 (.slice none 0 0)))
  case first =>
   have hn:=HQ.out.2.1;obtain ⟨c0,c1,c2⟩:=QaT hn;have f0:=Qam hn 0;clear hn;have HQ1:=Za (HQ.out.root true);cases root
   ·have hb0:bs=0:=hbs.out.symm;subst hb0;go_wp2_with fail;go_meet;exact ⟨rfl,HQ⟩
   ·have hb0:bs=1:=hbs.out.symm;subst hb0;go_wp2_with fail;go_meet;exact ⟨rfl,HQ1⟩
  case rest =>
   obtain ⟨rfl,HQ1⟩:=hcut;obtain ⟨w2,rfl⟩:∃ x:World,x=wc:=⟨_,rfl⟩;clear HQ;go_wp2_with fail;go_loopw [5] (fun z wr=>∃ k:Nat,z = .int .i64 (bs+k:Nat)/\bs+k<=s.length/\Hid (CarJ root N R k (s.drop (bs+k)))/\Hid (QAt w wr root k (.slice none 0 0))) (fun z _=>s.length-(intOf z).toNat)
   case atStart=>exact ⟨0,by simp,by omega,by simpa using HJ,by simpa using HQ1⟩
   case round =>
    clear HQ1 HJ;obtain ⟨k,rfl,hk,HJ,HQ⟩:=hrel;obtain ⟨w3,rfl⟩:∃ x:World,x=wr:=⟨_,rfl⟩;obtain ⟨i,hi⟩:∃ i,bs+k=i:=⟨_,rfl⟩;rw [hi] at HJ hk |-;have hn:=HQ.out.2.1;obtain ⟨c0,c1,c2⟩:=QaT hn;have f1:=Qam hn 1;clear hn;go_upto_region 5 with fail;go_cut [31] (fun z wx=>z = .bool (!root&&Lib.hasPrefix (s.drop i) [94])/\w3=wx)
    case first =>
     cases root
     ·by_cases hlt:i<s.length
      ·have hcc:((s[i].toNat:Int)==94)=Lib.hasPrefix (s.drop i) [94]:=by
        rw [List.drop_eq_getElem_cons hlt,show (94:Int)=((94:UInt8).toNat:Int) from rfl,Qjy,Qg6]
       go_wp2_with fail;go_meet;exact ⟨rfl,rfl⟩
      ·have hdn:s.drop i=[]:=List.drop_eq_nil_of_le (by omega);have hdn2:Hid (Lib.hasPrefix (s.drop i) [94]=false):=Za (by rw [hdn]<;>rfl);clear hdn;go_wp2_with fail;go_meet;exact ⟨by rw [hdn2.out];rfl,rfl⟩
     ·go_wp2_with fail;go_meet;exact ⟨rfl,rfl⟩
    case rest =>
     obtain ⟨rfl,rfl⟩:=hcut;cases hb:(!root&&Lib.hasPrefix (s.drop i) [94])
     ·obtain ⟨rfl,rfl⟩:=HJ.out.last hb;clear hb HJ c0 c1 c2 f1;obtain ⟨w4,rfl⟩:∃ x:World,x=w3:=⟨_,rfl⟩;have HS0:Hid (QuL s i i []):=Za (by
       refine ⟨by simp,by simp,Nat.le_refl _,by omega,?_⟩;by_cases hlt:i<s.length
       ·exact .inl ⟨hlt,by rw [hR.out];rfl,fun h=>absurd h (by omega)⟩
       ·refine .inr ⟨by omega,?_⟩;unfold QaG;rw [hR.out,if_pos (List.drop_eq_nil_of_le (by omega))])
      clear hk;go_wp2_with fail;go_loopw [5] (fun z wr=>∃ (n:Nat) (dn:List (List UInt8)) (a:Option Addr) (c:Nat),z = .int .i64 n/\Hid (QuL s i n dn)/\Hid (QAt w wr root k (.slice a dn.length c))/\Hid (wr.ownsRow (w.heap.size+2) 9 1 (.slice a dn.length c) dn.length (dn.map QbT))) (fun z _=>s.length+1-(intOf z).toNat)
      case atStart=>exact ⟨i,[],none,0,rfl,HS0,HQ,Za (Qlf _ _)⟩
      case round =>
       clear HS0 HQ;obtain ⟨n,dn,a,c,rfl,HS,HQ,HO⟩:=hrel;obtain ⟨w5,rfl⟩:∃ x:World,x=wr:=⟨_,rfl⟩;by_cases hlt:n<s.length
       ·obtain ⟨j1,j2,j3,j4,j5⟩:=HS.out;have j6:QaE (Qbv s)=dn++QaE (s.drop n)/\(i<n->s[n-1]?=some 46):=by
         rcases j5 with ⟨_,h⟩|⟨h,_⟩
         ·exact h
         ·omega
        obtain ⟨j7,j8⟩:=j6;have hne:Qbv s≠[]:=by
         intro e;have h1:=j7;rw [e] at h1;have h2:=congrArg List.length h1;rw [List.length_append,Qcs (s.drop n)] at h2;have hd0:dn=[]:=List.eq_nil_of_length_eq_zero (by simp [QaE] at h2;omega);rw [hd0] at h1;have h3:=hR.out;rw [e] at h3;have h4:=congrArg List.length h3;simp at h4;omega
        have HNE:=Za hne;have HSPL:=Za j7;have HSP:Hid (QaG s=dn++QaE (s.drop n)):=Za (by unfold QaG;rw [if_neg hne,j7]);obtain ⟨x,y,e1,e2,e3⟩:=Qfc (s.drop n);have hlen:n+x.length+y.length=s.length:=by
         have:=congrArg List.length e1;simp at this;omega
        have HXC:Hid (∀ j (hj:j<x.length),∃ h:n+j<s.length,s[n+j]=x[j]/\x[j]≠46):=Za (by
         intro j hj;refine ⟨by omega,?_,e2 _ (List.getElem_mem hj)⟩;have h1:(s.drop n)[j]?=some x[j]:=by rw [e1,List.getElem?_append_left hj,List.getElem?_eq_getElem hj]
         rw [List.getElem?_drop,List.getElem?_eq_getElem (by omega)] at h1;exact Option.some.inj h1)
        have HCUT:Hid (List.take x.length (List.drop n s)=x):=Za (by rw [e1];simp);have HJ1:=Za j1;have HJ8:=Za j8;have HE3:Hid (y=[]/\QaE (s.drop n)=[x]\/∃ t,y=46::t/\QaE (s.drop n)=x::QaE t):=Za e3;have HY:Hid (List.drop (n+x.length) s=y):=Za (by rw [<- List.drop_drop,e1];simp);clear j1 j5 j7 j8 e1 e2 e3 hne HS;go_upto_block 4 with fail;go_cut [7] (fun z wx=>z = .int .i64 (n+x.length:Nat)/\w5=wx)
        case first =>
         go_wp2_with fail;go_loopw [7] (fun z wr=>∃ j:Nat,z = .int .i64 (n+j:Nat)/\j<=x.length/\w5=wr) (fun z _=>n+x.length-(intOf z).toNat)
         case atStart=>exact ⟨0,by simp,by omega,rfl⟩
         case round =>
          obtain ⟨j,rfl,hj,rfl⟩:=hrel;by_cases hj2:j<x.length
          ·obtain ⟨q0,q1,q2⟩:=HXC.out j hj2;have hcc:((s[n+j].toNat:Int) != 46)=true:=by
            rw [q1,bne,show (46:Int)=((46:UInt8).toNat:Int) from rfl,Qjy];simpa using fun e=>q2 e.symm
           clear q1 q2;go_wp2_with fail;go_roundw
           case rel=>exact ⟨j+1,by go_num,by omega,by trivial⟩
           case measure=>simp [intOf];omega
          ·obtain rfl:j=x.length:=by omega
           rcases HE3.out with ⟨rfl,_⟩|⟨t,rfl,_⟩
           ·simp at hlen;go_wp2_with fail;go_meet;exact ⟨by rw [hlen],rfl⟩
           ·have hq:n+x.length<s.length:=by simp at hlen;omega
            have hq2:s[n+x.length]=46:=by
             have h1:=HY.out;rw [List.drop_eq_getElem_cons hq] at h1;injection h1
            have hcc:((s[n+x.length].toNat:Int) != 46)=false:=by rw [hq2];rfl
            clear hq2;go_wp2_with fail;go_meet;exact ⟨rfl,rfl⟩
        case rest =>
         obtain ⟨rfl,rfl⟩:=hcut;obtain ⟨w6,rfl⟩:∃ x:World,x=w5:=⟨_,rfl⟩;obtain ⟨K,hK⟩:∃ K,n+x.length=K:=⟨_,rfl⟩;rw [hK];have hxl:K-n=x.length:=by omega
         obtain ⟨b,HB⟩:∃ b,Hid (QaV x=b):=⟨_,Za rfl⟩;have HXL:Hid (x.length<=9223372036854775000):=Za (by omega);go_upto_region 14 with fail;go_cut [82] (fun z wx=>z = .bool (!b||decide (K+1=s.length))/\w6=wx)
         case first =>
          have HSEG:=Za (QcJ x b HB w6 HXL.out);by_cases hin:i<n
          ·have hq0:n-1<s.length:=by omega
           have hq1:s[n-1]=46:=by
            have:=HJ8.out hin;rw [List.getElem?_eq_getElem hq0] at this;exact Option.some.inj this
           have hcc:((s[n-1].toNat:Int) != 46)=false:=by rw [hq1];rfl
           have hn1:((n:Int)-1).toNat=n-1:=by omega
           clear hq1;go_wp2_with fail;rw [HCUT.out];((with_reducible refine HSEG.out.mono ?_));rintro e w7 ⟨rfl,rfl⟩;cases b
           ·go_wp2_with fail;go_meet;exact ⟨rfl,rfl⟩
           ·by_cases hkl:K+1=s.length
            ·have hkb:((K:Int)+1==(s.length:Int))=true:=by rw [beq_iff_eq];omega
             go_wp2_with fail;go_meet;exact ⟨by rw [decide_eq_true hkl];rfl,rfl⟩
            ·have hkb:((K:Int)+1==(s.length:Int))=false:=by rw [beq_eq_false_iff_ne];omega
             go_wp2_with fail;go_meet;exact ⟨by rw [decide_eq_false hkl];rfl,rfl⟩
          ·go_wp2_with fail;rw [HCUT.out];((with_reducible refine HSEG.out.mono ?_));rintro e w7 ⟨rfl,rfl⟩;cases b
           ·go_wp2_with fail;go_meet;exact ⟨rfl,rfl⟩
           ·by_cases hkl:K+1=s.length
            ·have hkb:((K:Int)+1==(s.length:Int))=true:=by rw [beq_iff_eq];omega
             go_wp2_with fail;go_meet;exact ⟨by rw [decide_eq_true hkl];rfl,rfl⟩
            ·have hkb:((K:Int)+1==(s.length:Int))=false:=by rw [beq_eq_false_iff_ne];omega
             go_wp2_with fail;go_meet;exact ⟨by rw [decide_eq_false hkl];rfl,rfl⟩
         case rest =>
          obtain ⟨rfl,rfl⟩:=hcut;obtain ⟨w7,rfl⟩:∃ x:World,x=w6:=⟨_,rfl⟩;cases hbad:(!b||decide (K+1=s.length))
          ·have hb1:b=true/\K+1≠s.length:=by simpa using hbad
           obtain ⟨rfl,hK1⟩:=hb1;clear hbad;have hx1:1<=x.length:=by
            by_cases h0:x.length<1
            ·have:=HB.out;rw [QgS x (.inl h0)] at this;cases this
            ·omega
           have HS2:Hid (QuL s i (K+1) (dn++[x])):=Za (by
            refine ⟨?_,by simp;omega,by omega,by omega,?_⟩
            ·intro z hz;rcases List.mem_append.1 hz with hz|hz
             ·exact HJ1.out z hz
             ·rw [List.mem_singleton.1 hz];exact HB.out
            ·rcases HE3.out with ⟨h1,h2⟩|⟨t,h1,h2⟩
             ·refine .inr ⟨by rw [h1] at hlen;simp at hlen;omega,?_⟩;rw [HSP.out,h2]
             ·have hlt3:K+1<s.length:=by rw [h1] at hlen;simp at hlen;omega
              have hdr:s.drop K=46::t:=by rw [<- hK,HY.out,h1]
              refine .inl ⟨hlt3,?_,fun _=>?_⟩
              ·have:s.drop (K+1)=t:=by rw [<- List.drop_drop,hdr];rfl
               rw [HSPL.out,h2,this];simp
              ·rw [show K+1-1=K from rfl];have hlt4:K<s.length:=by omega
               rw [List.drop_eq_getElem_cons hlt4] at hdr;injection hdr with h5 _;rw [List.getElem?_eq_getElem hlt4,h5])
           have HCUT2:Hid (List.take (K-n) (List.drop n s)=x):=Za (by rw [hxl];exact HCUT.out);go_upto_region 16 with fail;obtain ⟨d0,d1,d2⟩:=QaT HQ.out.2.1;have hS0:∀ z,SameAt w7 ⟨w.heap.size+1,2,none⟩ z->z.cell? ⟨w.heap.size+1,2,none⟩=some (.slice a dn.length c):=fun z hz=>hz.trans d2;refine Qak (SameAt w7 ⟨w.heap.size+1,2,none⟩) 7 [.reads [0,1,2,3,4,5],.act 6,.act 7,.act 8,.act 9] (by kernel_rfl) (by kernel_rfl) (by kernel_rfl) (by kernel_rfl) (by kernel_rfl) (fun _ _ d _ _ h=>by cases d<;>exact h) rfl ?_;refine Qaf ?_;simp only [Qab,pQ1,pQ2,pQ3,pQ4,pQ5,pQ6]
           repeat (go_big_quiet_step (first|(intro hb;rw [hS0 _ hb];exact ⟨rfl,rfl⟩)))
           refine wpQuiet_nil ?_;rw [HCUT.out];have HZ:Hid (w.heap.size+2<=w7.heap.size):=Za HQ.out.lt;obtain ⟨k1,k2⟩:=QuK w7.drew (.cells #[.string ⟨x.toArray⟩] 9);have HQ8:=Za ((HQ.out.below (Grows.self w7)).below k1);have HO8:=Za (QbH (QbH HO.out (Grows.self w7)) k1);have H1:=Za (StrsAt.one (x:=x) k2);have HZ8:Hid (w.heap.size+2<=(w7.drew.alloc (.cells #[.string ⟨x.toArray⟩] 9)).heap.size):=Za (Nat.le_trans HZ.out k1.size);clear k1 k2 HQ HO;refine Qaa rfl ?_;simp only [Qab,pQ1,pQ2,pQ3,pQ4,pQ5,pQ6];go_wp2_with fail;refine ⟨fun _=>?_,?_⟩
           ·exact (QaT HQ8.out.2.1).2.2.trans d2.symm
           refine Qaa rfl ?_;simp only [Qab,pQ1,pQ2,pQ3,pQ4,pQ5,pQ6];go_wp2_with (at_builtin;refine Qgi rfl _ _ rfl (w.heap.size+2) _ dn rfl HO8.out (.slice (some ⟨w7.drew.heap.size,0,none⟩) 1 1) [x] rfl H1.out (by simp;omega) HZ8.out ?_;intro v9 w9 ho hg;obtain ⟨a9,c9,rfl⟩:=Qg5 ho;have HO9:=Za ho;have HQ9:=Za (HQ8.out.grown hg (fun g h=>QaN HO8.out h));clear ho hg HQ8 HO8 H1 HZ8);refine ⟨fun h=>absurd h (by decide),?_⟩;refine Qaa rfl ?_;simp only [Qab,pQ1,pQ2,pQ3,pQ4,pQ5,pQ6];go_wp2_with fail;refine ⟨fun h=>absurd h (by decide),?_⟩;clear hS0 d0 d1 d2;obtain ⟨d0,d1,d2⟩:=QaT HQ9.out.2.1;have g2:=Qam HQ9.out.2.1 2;have HQ10:=Za (HQ9.out.segs (.slice a9 (dn++[x]).length c9));have HO10:=Za (Qdl HO9.out ⟨w.heap.size+1,2,none⟩ (.slice a9 (dn++[x]).length c9) (by show w.heap.size+1<w.heap.size+2;omega));clear HO9;obtain ⟨D2,hD2⟩:∃ D,dn++[x]=D:=⟨_,rfl⟩;have hD2l:D2.length=dn.length+1:=by rw [<- hD2];simp
           rw [hD2] at HQ10 HO10 HS2;rw [hD2l] at HQ10 HO10;refine Qaa rfl ?_;simp only [Qab,pQ1,pQ2,pQ3,pQ4,pQ5,pQ6];go_wp2_with fail;refine ⟨fun h=>absurd h (by decide),Qat ?_⟩;clear d0 d1 d2 g2 HQ9;generalize (w9.setCell ⟨w.heap.size+1,2,none⟩ (.slice a9 (dn.length+1) c9))=w10 at *;go_wp2_with fail;go_roundw
           case rel=>exact ⟨K+1,D2,a9,c9,by go_num,HS2,by rw [hD2l];exact HQ10,by rw [hD2l];exact HO10⟩
           case measure=>simp [intOf];omega
          ·have HBAD:Hid (QaW s=false):=Za (by
            unfold QaW;rw [HSP.out];have hbb:b=false\/K+1=s.length:=by simpa using hbad
            rcases HE3.out with ⟨h1,h2⟩|⟨t,h1,h2⟩
            ·rw [h2];rcases hbb with rfl|hK1
             ·exact Qgv (x:=x) (by simp) HB.out
             ·rw [h1] at hlen;simp at hlen;omega
            ·rw [h2];rcases hbb with rfl|hK1
             ·exact Qgv (x:=x) (by simp) HB.out
             ·obtain rfl:t=[]:=List.eq_nil_of_length_eq_zero (by rw [h1] at hlen;simp at hlen;omega);exact Qgv (x:=[]) (by simp [QaE]) rfl)
           clear hbad;obtain ⟨e0,e1,e2⟩:=QaT HQ.out.1;have i0:=Qam HQ.out.1 0;have i1:=Qam HQ.out.1 1;have i2:=Qam HQ.out.1 2;go_wp2_with fail;exact bodyPost_ret (Qgu _ _ _ _ _ _ rfl (Qio HQ.out.1 _ _ _)) rfl (QdY HBAD.out (Qip HQ.out.2.2 Zc _ _ _))
       ·obtain ⟨j1,j2,j3,j4,j5⟩:=HS.out;have hsg:QaG s=dn:=by
         rcases j5 with ⟨h,_⟩|⟨_,h⟩
         ·exact absurd h hlt
         ·exact h
        have HX:Hid (∀ x∈dn,x.length<=9223372036854775000):=Za (fun x hx=>Nat.le_trans (Qjx (j1 x hx)) (by omega));have HSG:=Za hsg;have HOK:Hid (QaW s=QaI root k dn):=Za (by unfold QaW;rw [hsg,hroot.out,hN.out]);have HV:=Za (Qf5 (.agg #[.bool root,.int .i64 k,.slice a dn.length c]) root k dn w5 (PathV.mk (StrsAt.of_own HO.out (by omega))) HX.out);have HZ:Hid (w.heap.size+2<=w5.heap.size):=Za HQ.out.lt;clear j1 j3 j5 hsg;obtain ⟨d0,d1,d2⟩:=QaT HQ.out.2.1;cases hv:QaI root k dn
        all_goals
         rw [hv] at HOK;rw [hv] at HV;clear hv;go_wp2_with fail;((with_reducible refine HV.out.mono ?_));rintro e w6 ⟨rfl,hb⟩;have HQ6:=Za (HQ.out.below hb);have HO6:=Za (QbH HO.out hb);clear hb HV HQ HO d0 d1 d2;obtain ⟨d0,d1,d2⟩:=QaT HQ6.out.2.1;obtain ⟨e0,e1,e2⟩:=QaT HQ6.out.1;have i0:=Qam HQ6.out.1 0;have i1:=Qam HQ6.out.1 1;have i2:=Qam HQ6.out.1 2;go_wp2_with fail
        ·exact bodyPost_ret (Qgu _ _ _ _ _ _ rfl (Qio HQ6.out.1 _ _ _)) rfl (QdY HOK.out (Qip HQ6.out.2.2 Zc _ _ _))
        ·refine bodyPost_ret (Qgu _ _ _ _ _ _ rfl (Qio HQ6.out.1 _ _ _)) rfl ?_;have:=Qft (v:=.slice a dn.length c) HOK.out (by rw [HSG.out];exact Qfm (QlV HO6.out w.heap.size (.bool root) (.int .i64 k) (.slice a dn.length c) (by omega)) (by omega)) (Qip HQ6.out.2.2 Zc (.bool root) (.int .i64 k) (.slice a dn.length c));rw [hroot.out,hN.out] at this;exact this
     ·obtain rfl:root=false:=by cases root with
       | false=>rfl
       | true=>cases hb
      obtain ⟨t,ht⟩:=QgU (s.drop i) (by simpa using hb);have hlt:i<s.length:=by
       have:=congrArg List.length ht;simp at this;omega
      have HJ3:Hid (CarJ false N R (k+1) (s.drop (i+1))):=Za (by
       have h1:=HJ.out;rw [ht] at h1;have h2:=h1.step;have h3:s.drop (i+1)=t:=by
        have:s.drop (i+1)=(s.drop i).drop 1:=by rw [List.drop_drop]
        rw [this,ht];rfl
       rw [h3];exact h2)
      have HQ3:=Za (HQ.out.up ((k:Int)+1));clear hb HJ HQ ht;go_wp2_with fail;go_roundw
      case rel=>exact ⟨k+1,by rw [<- hi];go_num,by omega,by rw [<- Nat.add_assoc,hi];exact HJ3,Za (by have:=HQ3.out;exact_mod_cast this)⟩
      case measure=>simp [intOf];omega
end
end Go.Proofs.YtoohondkpddmcaaGreatDoor
