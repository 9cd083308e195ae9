/- Lt Lu -/
import Derived.Test.YtoohondkpddmcaaGreatDoorUzz
import Derived.Test.YtoohondkpddmcaaGreatDoorUaz
namespace Go.Proofs.YtoohondkpddmcaaGreatDoor
set_option maxHeartbeats 32000000
set_option linter.unusedVariables false
set_option linter.unusedSimpArgs false
section
open Go.RowKit
attribute [local go_sem] ByteArray.mk_append_mk Qac Qad Qae
theorem Qja (B b:Nat) (most:Nat) (mi:Int) (hm:(most:Int)=mi) (w:World) (s:List UInt8) (pos e bl:Nat) (o:List Nd) (h:TSt B b w s pos e bl o) (hp:pos<=e) (he:e<=s.length) (hs:s.length<=1000000) :
  Calls Tryz.prog 154 #[.pointer (some ⟨b,0,none⟩),.int .i64 mi] w (QvX B b w s pos e bl o (Qbf s most (QaN bl) pos e)):=by
 rw [<- hm];exact QrX B b most w s pos e bl o h hp he hs
theorem Qw5:∀ c:Fin 8,List.take c.val [(101:UInt8),101,101,101,101,101,101]=List.replicate c.val 101:=by decide
theorem TPost.bel {B b:Nat} {w w1 w2:World} {s:List UInt8} {e bl:Nat} {o:List Nd} {x:DR} {en:Ending} (h:Below B w w1) (k:TPost B b w1 s e bl o x en w2):TPost B b w s e bl o x en w2:=⟨h.trans k.1,k.2⟩
def OpT (B b : Nat) (s : List UInt8) (f : Nat) : Prop := ∀ (op : Int) (w : World) (pos e bl : Nat) (o : List Nd), op ∈ Qej → TSt B b w s pos e bl o → pos ≤ e → e ≤ s.length → s.length < pos + f → o.length + 1 ≤ pos → bl ≤ pos →
    Calls Tryz.prog 110 #[.pointer (some ⟨b,0,none⟩),.int .i64 op] w (TPost B b w s e bl o (Qb0 s (Qaw s f) op (QaN bl) pos e))
theorem Qek {B b:Nat} {w w':World} {s:List UInt8} {e bl:Nat} {A C:List Nd} {a n p:Int} {x:List UInt8} {q:Nat} {err:Int} {en:Ending} (h:QtA B b w s e bl A a n x p C (.no q err) en w'):en = .returned (.bool false)/\Qlc b q err w'/\Below B w w':=⟨h.2.1,h.2.2,h.1⟩
theorem Qel {B b:Nat} {w w':World} {s:List UInt8} {e bl:Nat} {A C:List Nd} {a n p:Int} {x:List UInt8} {q:Nat} {ns:List Nd} {en:Ending} (h:QtA B b w s e bl A a n x p C (.ok q ns) en w'):en = .returned (.bool true)/\TSt B b w' s q e bl (A++⟨a,n,x,p⟩::(C++ns))/\Below B w w':=⟨h.2.1,h.2.2,h.1⟩
set_option maxRecDepth 100000 in
theorem QtB (B b:Nat) (s:List UInt8) (f:Nat) (hs:s.length<=65536) (hK:QlQ B b s f) (op:Int) (hop:op∈Qej) (h5:op≠5) (h33:op≠33) (h31:op≠31) (w:World) (pos e bl:Nat) (o:List Nd) (ht:TSt B b w s pos e bl o) (hp:pos<=e) (he:e<=s.length) (hf:s.length<pos+f) (ho:o.length+1<=pos) (hbl:bl<=pos) :
  Calls Tryz.prog 110 #[.pointer (some ⟨b,0,none⟩),.int .i64 op] w (TPost B b w s e bl o (Qb0 s (Qaw s f) op (QaN bl) pos e)):=by
 have HK:=Za hK;unfold QlQ at HK;have HI:=Za (show pos<=e/\e<=s.length/\s.length<pos+f/\o.length+1<=pos/\bl<=pos from ⟨hp,he,hf,ho,hbl⟩);have HA:Hid (Calls Tryz.prog 106 #[.pointer (some ⟨b,0,none⟩),.agg #[.int .i64 op,.int .u64 0,.string ⟨#[]⟩,.int .i64 0]] w fun en w'=>en = .returned (.int .i64 o.length)/\TSt B b w' s pos e bl (o++[⟨op,0,[],0⟩])/\Below B w w'):=Za (QcH B b op 0 0 [] w s pos e bl o ht (by omega));have HGC:=Za (fun ks q hq=>QcT (child:=Qat s (Qaw s f) (QaN bl) e) (e:=e) (fun k q hq=>QbR (fun k inner q e h1 h2=>Qbj s f k inner q e h1 h2) he k q hq) ks q hq);obtain ⟨X,hX⟩:∃ X,Hid (Qb0 s (Qaw s f) op (QaN bl) pos e=X):=⟨_,Za rfl⟩;rw [hX.out];have HSZ:=Za ht.size;have HXD:Hid (X=Qfo ⟨op,0,[],((QaE op).2.length:Nat)⟩ (QaU (Qat s (Qaw s f) (QaN bl) e) (QaE op).2 pos)):=Za (by rw [<- hX.out];unfold Qb0;rw [if_neg h5,if_neg h33,if_neg h31]);have HCK:=Za (Qld op hop h31);have HFL:Hid ((QaE op).2.length<=1000):=Za (by
  have hc:∀ q∈Qej,(QaE q).2.length<=1000:=by decide +kernel
  exact hc op hop)
 obtain ⟨ks,hks⟩:∃ ks,(QaE op).2=ks:=⟨_,rfl⟩;rw [hks] at HXD HCK HFL;have b5:(op==5)=false:=Zd h5;have b33:(op==33)=false:=Zd h33;have b31:(op==31)=false:=Zd h31;clear hX ht hp he hf ho hbl hs hK hks h5 h33 h31 hop;go_enter Tryz.func110,Tryz.ntmps110;go_wp2_with fail;((with_reducible refine HA.out.mono ?_));rintro en w1 ⟨rfl,ht1,hb1⟩;have HT1:=Za ht1;have HB1:=Za hb1;clear ht1 hb1 HA;go_wp2_with fail;((with_reducible refine (HCK.out _).mono ?_));rintro en w2 ⟨rfl,rfl⟩;obtain ⟨Y,hY⟩:∃ Y,QaU (Qat s (Qaw s f) (QaN bl) e) ks pos=Y:=⟨_,rfl⟩;obtain ⟨i1,i2,i3,i4,i5⟩:=HI.out;have HC:=Za (HK.out ks w1 pos e bl o [] op 0 [] 0 HT1.out i1 i2 i3 (by simp;omega) i5 HFL.out (by omega));rw [hY] at HC HXD;have HXE:=HXD;clear hY i1 i2 i3 i4 i5 HXD HCK HK HGC HI;cases Y with
 | no q err =>
   have HXX:Hid (X = .no q err):=Za (HXE.out);go_wp2_with fail;((with_reducible refine HC.out.mono ?_));intro en wz hpz;obtain ⟨rfl,htz,hbz⟩:=Qek hpz;have HBZ:=Za (HB1.out.trans hbz);have HTZ:=Za htz;clear hpz htz hbz HC;go_wp2_with fail;go_ret;rw [HXX.out];exact ⟨HBZ.out,rfl,HTZ.out⟩
 | ok q ns =>
   have HXX:=Za (HXE.out);go_wp2_with fail;((with_reducible refine HC.out.mono ?_));intro en wz hpz;obtain ⟨rfl,htz,hbz⟩:=Qel hpz;have HBZ:=Za (HB1.out.trans hbz);have HTZ:=Za htz;clear hpz htz hbz HC;go_wp2_with fail;go_ret;rw [HXX.out];exact ⟨HBZ.out,rfl,(by have:=HTZ.out;rw [List.nil_append,Nat.zero_add] at this;exact this)⟩
set_option maxRecDepth 100000 in
theorem Qvj (B b:Nat) (s:List UInt8) (f:Nat) (hs:s.length<=65536) (hK:QlQ B b s f) (w:World) (pos e bl:Nat) (o:List Nd) (ht:TSt B b w s pos e bl o) (hp:pos<=e) (he:e<=s.length) (hf:s.length<pos+f) (ho:o.length+1<=pos) (hbl:bl<=pos) :
  Calls Tryz.prog 110 #[.pointer (some ⟨b,0,none⟩),.int .i64 33] w (TPost B b w s e bl o (Qb0 s (Qaw s f) 33 (QaN bl) pos e)):=by
 have HK:=Za hK;unfold QlQ at HK;have HI:=Za (show pos<=e/\e<=s.length/\s.length<pos+f/\o.length+1<=pos/\bl<=pos from ⟨hp,he,hf,ho,hbl⟩);have HA:Hid (Calls Tryz.prog 106 #[.pointer (some ⟨b,0,none⟩),.agg #[.int .i64 33,.int .u64 0,.string ⟨#[]⟩,.int .i64 0]] w fun en w'=>en = .returned (.int .i64 o.length)/\TSt B b w' s pos e bl (o++[⟨33,0,[],0⟩])/\Below B w w'):=Za (QcH B b 33 0 0 [] w s pos e bl o ht (by omega));have HGC:=Za (fun ks q hq=>QcT (child:=Qat s (Qaw s f) (QaN bl) e) (e:=e) (fun k q hq=>QbR (fun k inner q e h1 h2=>Qbj s f k inner q e h1 h2) he k q hq) ks q hq);obtain ⟨X,hX⟩:∃ X,Hid (Qb0 s (Qaw s f) 33 (QaN bl) pos e=X):=⟨_,Za rfl⟩;rw [hX.out];have HSZ:=Za ht.size;have HXD:Hid (X=(match Qbf s 1 (QaN bl) pos e with
  | .no err=>.no pos err
  | .ok c=>Qfo ⟨33,0,[],(c:Nat)⟩ (QaU (Qat s (Qaw s f) (QaN bl) e) (List.replicate c 101) (pos+1)))):=Za (by rw [<- hX.out]<;>rfl)
 have HQ2:Hid (pos<=e/\e<=s.length):=Za ⟨hp,he⟩;have HSL:=Za hs;clear hX ht hp he hf ho hbl hs hK;go_enter Tryz.func110,Tryz.ntmps110;go_wp2_with fail;((with_reducible refine HA.out.mono ?_));rintro en w1 ⟨rfl,ht1,hb1⟩;have HT1:=Za ht1;have HB1:=Za hb1;clear ht1 hb1 HA;obtain ⟨Z2,hZ2⟩:∃ Z,Qbf s 1 (QaN bl) pos e=Z:=⟨_,rfl⟩;have HCC2:=Za (Qja B b 1 1 rfl w1 s pos e bl _ HT1.out HQ2.out.1 HQ2.out.2 (by have:=HSL.out;omega));rw [hZ2] at HCC2 HXD;have HZ2:=Za hZ2;clear hZ2 HT1;cases Z2 with
 | no err =>
   have HXX:Hid (X = .no pos err):=HXD;go_wp2_with fail;((with_reducible refine HCC2.out.mono ?_));rintro en w2c ⟨hb2c,rfl,ht2c⟩;have HBc:=Za (HB1.out.trans hb2c);have HTc:=Za ht2c;clear hb2c ht2c HCC2;go_wp2_with fail;go_ret;rw [HXX.out];exact ⟨HBc.out,rfl,HTc.out⟩
 | ok c =>
   have hc1:=(Qcd HZ2.out).1;have hc2:=(Qcd HZ2.out).2.1;go_wp2_with fail;((with_reducible refine HCC2.out.mono ?_));rintro en w2c ⟨hb2c,rfl,ht2c⟩;have HB2:=Za (HB1.out.trans hb2c);have HT2:=Za ht2c;have HPN2:Hid (pos+1<=e):=Za (by have:=HQ2.out.1;omega);clear hb2c ht2c HCC2 hc1 HZ2;have HXE:Hid (X=Qfo ⟨33,0,[],(c:Nat)⟩ (QaU (Qat s (Qaw s f) (QaN bl) e) (List.replicate c 101) (pos+1))):=HXD;clear HXD;have hc01:c=0\/c=1:=by omega
   clear hc2;rcases hc01 with rfl|rfl
   ·obtain ⟨Y,hY⟩:∃ Y,QaU (Qat s (Qaw s f) (QaN bl) e) [] (pos+1)=Y:=⟨_,rfl⟩;have HC:=Za (HK.out [] w2c (pos+1) e bl o [] 33 0 [] 0 (HT2.out) (by have:=HPN2.out;omega) HI.out.2.1 (by have:=HI.out.2.2.1;omega) (by have:=HI.out.2.2.2.1;simp;omega) (by have:=HI.out.2.2.2.2;omega) (by simp) (by omega));rw [hY] at HC;have HXE2:=HXE;(try simp only [List.replicate_zero,List.replicate_succ] at HXE2);rw [hY] at HXE2;clear HXE;have HXE:=HXE2;clear HXE2 hY HK HGC HI;(try rw [show (⟨([]:List UInt8).toArray⟩:ByteArray)=ByteArray.empty from rfl] at HC);cases Y with
    | no q err =>
      have HXX:Hid (X = .no q err):=Za (HXE.out);go_wp2_with fail;((with_reducible refine HC.out.mono ?_));intro en wz hpz;obtain ⟨rfl,htz,hbz⟩:=Qek hpz;have HBZ:=Za (HB2.out.trans hbz);have HTZ:=Za htz;clear hpz htz hbz HC;go_wp2_with fail;go_ret;rw [HXX.out];exact ⟨HBZ.out,rfl,HTZ.out⟩
    | ok q ns =>
      have HXX:=Za (HXE.out);go_wp2_with fail;((with_reducible refine HC.out.mono ?_));intro en wz hpz;obtain ⟨rfl,htz,hbz⟩:=Qel hpz;have HBZ:=Za (HB2.out.trans hbz);have HTZ:=Za htz;clear hpz htz hbz HC;go_wp2_with fail;go_ret;rw [HXX.out];exact ⟨HBZ.out,rfl,(by have:=HTZ.out;rw [List.nil_append] at this;exact this)⟩
   ·obtain ⟨Y,hY⟩:∃ Y,QaU (Qat s (Qaw s f) (QaN bl) e) [101] (pos+1)=Y:=⟨_,rfl⟩;have HC:=Za (HK.out [101] w2c (pos+1) e bl o [] 33 0 [] 0 (HT2.out) (by have:=HPN2.out;omega) HI.out.2.1 (by have:=HI.out.2.2.1;omega) (by have:=HI.out.2.2.2.1;simp;omega) (by have:=HI.out.2.2.2.2;omega) (by simp) (by omega));rw [hY] at HC;have HXE2:=HXE;(try simp only [List.replicate_zero,List.replicate_succ] at HXE2);rw [hY] at HXE2;clear HXE;have HXE:=HXE2;clear HXE2 hY HK HGC HI;(try rw [show (⟨([]:List UInt8).toArray⟩:ByteArray)=ByteArray.empty from rfl] at HC);cases Y with
    | no q err =>
      have HXX:Hid (X = .no q err):=Za (HXE.out);go_wp2_with fail;((with_reducible refine HC.out.mono ?_));intro en wz hpz;obtain ⟨rfl,htz,hbz⟩:=Qek hpz;have HBZ:=Za (HB2.out.trans hbz);have HTZ:=Za htz;clear hpz htz hbz HC;go_wp2_with fail;go_ret;rw [HXX.out];exact ⟨HBZ.out,rfl,HTZ.out⟩
    | ok q ns =>
      have HXX:=Za (HXE.out);go_wp2_with fail;((with_reducible refine HC.out.mono ?_));intro en wz hpz;obtain ⟨rfl,htz,hbz⟩:=Qel hpz;have HBZ:=Za (HB2.out.trans hbz);have HTZ:=Za htz;clear hpz htz hbz HC;go_wp2_with fail;go_ret;rw [HXX.out];exact ⟨HBZ.out,rfl,(by have:=HTZ.out;rw [List.nil_append] at this;exact this)⟩
set_option maxRecDepth 100000 in
theorem Qwz (B b:Nat) (s:List UInt8) (f:Nat) (hs:s.length<=65536) (hK:QlQ B b s f) (w:World) (pos e bl:Nat) (o:List Nd) (ht:TSt B b w s pos e bl o) (hp:pos<=e) (he:e<=s.length) (hf:s.length<pos+f) (ho:o.length+1<=pos) (hbl:bl<=pos) :
  Calls Tryz.prog 110 #[.pointer (some ⟨b,0,none⟩),.int .i64 5] w (TPost B b w s e bl o (Qb0 s (Qaw s f) 5 (QaN bl) pos e)):=by
 have HK:=Za hK;unfold QlQ at HK;have HI:=Za (show pos<=e/\e<=s.length/\s.length<pos+f/\o.length+1<=pos/\bl<=pos from ⟨hp,he,hf,ho,hbl⟩);have HA:Hid (Calls Tryz.prog 106 #[.pointer (some ⟨b,0,none⟩),.agg #[.int .i64 5,.int .u64 0,.string ⟨#[]⟩,.int .i64 0]] w fun en w'=>en = .returned (.int .i64 o.length)/\TSt B b w' s pos e bl (o++[⟨5,0,[],0⟩])/\Below B w w'):=Za (QcH B b 5 0 0 [] w s pos e bl o ht (by omega));have HGC:=Za (fun ks q hq=>QcT (child:=Qat s (Qaw s f) (QaN bl) e) (e:=e) (fun k q hq=>QbR (fun k inner q e h1 h2=>Qbj s f k inner q e h1 h2) he k q hq) ks q hq);obtain ⟨X,hX⟩:∃ X,Hid (Qb0 s (Qaw s f) 5 (QaN bl) pos e=X):=⟨_,Za rfl⟩;rw [hX.out];have HSZ:=Za ht.size;have HXD:Hid (X=(match Qcc s false (QaN bl) pos e with
  | .no err=>.no pos err
  | .ok q t=>match Qbf s 7 (QaN bl) q e with
    | .no err=>.no q err
    | .ok c=>Qfo ⟨5,0,t,(c:Nat)⟩ (QaU (Qat s (Qaw s f) (QaN bl) e) (List.replicate c 101) (q+1)))):=Za (by rw [<- hX.out]<;>rfl)
 have HSL:=Za hs;clear hX ht hp he hf ho hbl hs hK;go_enter Tryz.func110,Tryz.ntmps110;go_wp2_with fail;((with_reducible refine HA.out.mono ?_));rintro en w1 ⟨rfl,ht1,hb1⟩;have HT1:=Za ht1;have HB1:=Za hb1;clear ht1 hb1 HA;obtain ⟨PR,hPR⟩:∃ Z,Qcc s false (QaN bl) pos e=Z:=⟨_,rfl⟩;have HCP:=Za (QrY B b false w1 s pos e bl _ HT1.out HI.out.1 HI.out.2.1 (by have:=HSL.out;omega));rw [hPR] at HCP HXD;have HPR:=Za hPR;clear hPR HT1;cases PR with
 | no err =>
   have HXX:Hid (X = .no pos err):=HXD;go_wp2_with fail;((with_reducible refine HCP.out.mono ?_));rintro en w2 ⟨hb2,⟨t,rfl⟩,ht2⟩;have HB2:=Za (HB1.out.trans hb2);have HT2:=Za ht2;clear hb2 ht2 HCP;go_wp2_with fail;go_ret;rw [HXX.out];exact ⟨HB2.out,rfl,HT2.out⟩
 | ok q t =>
   have HPQ:=Za (Qiw HI.out.1 HI.out.2.1 HPR.out);go_wp2_with fail;((with_reducible refine HCP.out.mono ?_));rintro en w2 ⟨hb2,rfl,ht2⟩;have HB2:=Za (HB1.out.trans hb2);obtain ⟨g,cp,hblk,_,_,_,hcs,hfr,hst⟩:=ht2.kids;obtain ⟨d0,d1,d2,d3,d4,d5⟩:=Qa8 hblk;have HST:=Za (hst t);obtain ⟨nl,hnl⟩:∃ nl,(o++[(⟨5,0,[],0⟩:Nd)]).length=nl:=⟨_,rfl⟩;rw [hnl] at d4;have hol:(o.length:Int)<(nl:Int):=by rw [<- hnl];simp;omega
   clear hb2 ht2 HCP hblk hst hnl;go_upto_region 8 with fail;have HT3:=Za HST.out.1;have HB3':=Za (HB2.out.trans HST.out.2);generalize w2.setCell ⟨g,o.length * 4+2,none⟩ (.string ⟨t.toArray⟩)=w3 at HT3 HB3' |-;clear HST HB2 d0 d1 d2 d3 d4 d5 hfr hol hcs;have HQ3:Hid (q<=e/\e<=s.length):=Za ⟨HPQ.out.2.1,HI.out.2.1⟩;obtain ⟨Z3,hZ3⟩:∃ Z,Qbf s 7 (QaN bl) q e=Z:=⟨_,rfl⟩;have HCC3:=Za (Qja B b 7 7 rfl w3 s q e bl _ HT3.out HQ3.out.1 HQ3.out.2 (by have:=HSL.out;omega));rw [hZ3] at HCC3 HXD;have HZ3:=Za hZ3;clear hZ3 HT3;cases Z3 with
   | no err =>
     have HXX:Hid (X = .no q err):=HXD;go_wp2_with fail;((with_reducible refine HCC3.out.mono ?_));rintro en w3c ⟨hb3c,rfl,ht3c⟩;have HBc:=Za (HB3'.out.trans hb3c);have HTc:=Za ht3c;clear hb3c ht3c HCC3;go_wp2_with fail;go_ret;rw [HXX.out];exact ⟨HBc.out,rfl,HTc.out⟩
   | ok c =>
     have hc1:=(Qcd HZ3.out).1;have hc2:=(Qcd HZ3.out).2.1;go_wp2_with fail;((with_reducible refine HCC3.out.mono ?_));rintro en w3c ⟨hb3c,rfl,ht3c⟩;have HB3:=Za (HB3'.out.trans hb3c);have HT3:=Za ht3c;have HPN3:Hid (q+1<=e):=Za (by have:=HQ3.out.1;omega);clear hb3c ht3c HCC3 hc1 HZ3;have HXE:Hid (X=Qfo ⟨5,0,t,(c:Nat)⟩ (QaU (Qat s (Qaw s f) (QaN bl) e) (List.replicate c 101) (q+1))):=HXD;clear HXD;have htk:List.take c [(101:UInt8),101,101,101,101,101,101]=List.replicate c 101:=Qw5 ⟨c,by omega⟩;obtain ⟨Y,hY⟩:∃ Y,QaU (Qat s (Qaw s f) (QaN bl) e) (List.replicate c 101) (q+1)=Y:=⟨_,rfl⟩;have HC:=Za (HK.out (List.replicate c 101) w3c (q+1) e bl o [] 5 0 t 0 HT3.out (by have:=HPN3.out;omega) HI.out.2.1 (by have:=HI.out.2.2.1;have:=HPQ.out;omega) (by have:=HI.out.2.2.2.1;have:=HPQ.out;simp;omega) (by have:=HI.out.2.2.2.2;have:=HPQ.out;omega) (by simp;omega) (by omega));rw [hY] at HC HXE;rw [<- htk] at HC;have hc7:(c:Int)<=7:=by omega
     clear hY HK HGC HI htk hc2;cases Y with
     | no q err =>
       have HXX:Hid (X = .no q err):=Za (HXE.out);go_wp2_with fail;((with_reducible refine HC.out.mono ?_));intro en wz hpz;obtain ⟨rfl,htz,hbz⟩:=Qek hpz;have HBZ:=Za (HB3.out.trans hbz);have HTZ:=Za htz;clear hpz htz hbz HC;go_wp2_with fail;go_ret;rw [HXX.out];exact ⟨HBZ.out,rfl,HTZ.out⟩
     | ok q ns =>
       have HXX:=Za (HXE.out);go_wp2_with fail;((with_reducible refine HC.out.mono ?_));intro en wz hpz;obtain ⟨rfl,htz,hbz⟩:=Qel hpz;have HBZ:=Za (HB3.out.trans hbz);have HTZ:=Za htz;clear hpz htz hbz HC;go_wp2_with fail;go_ret;rw [HXX.out];exact ⟨HBZ.out,rfl,(by have:=HTZ.out;rw [List.nil_append,show ((0+(List.take c [(101:UInt8),101,101,101,101,101,101]).length:Nat):Int)=(c:Nat) from (by simp;omega)] at this;exact this)⟩
set_option maxRecDepth 100000 in
theorem Qvk (B b:Nat) (s:List UInt8) (f:Nat) (hs:s.length<=65536) (hK:QlQ B b s f) (w:World) (pos e bl:Nat) (o:List Nd) (ht:TSt B b w s pos e bl o) (hp:pos<=e) (he:e<=s.length) (hf:s.length<pos+f) (ho:o.length+1<=pos) (hbl:bl<=pos) :
  Calls Tryz.prog 110 #[.pointer (some ⟨b,0,none⟩),.int .i64 31] w (TPost B b w s e bl o (Qb0 s (Qaw s f) 31 (QaN bl) pos e)):=by
 have HK:=Za hK;unfold QlQ at HK;have HI:=Za (show pos<=e/\e<=s.length/\s.length<pos+f/\o.length+1<=pos/\bl<=pos from ⟨hp,he,hf,ho,hbl⟩);have HA:Hid (Calls Tryz.prog 106 #[.pointer (some ⟨b,0,none⟩),.agg #[.int .i64 31,.int .u64 0,.string ⟨#[]⟩,.int .i64 0]] w fun en w'=>en = .returned (.int .i64 o.length)/\TSt B b w' s pos e bl (o++[⟨31,0,[],0⟩])/\Below B w w'):=Za (QcH B b 31 0 0 [] w s pos e bl o ht (by omega));have HGC:=Za (fun ks q hq=>QcT (child:=Qat s (Qaw s f) (QaN bl) e) (e:=e) (fun k q hq=>QbR (fun k inner q e h1 h2=>Qbj s f k inner q e h1 h2) he k q hq) ks q hq);obtain ⟨X,hX⟩:∃ X,Hid (Qb0 s (Qaw s f) 31 (QaN bl) pos e=X):=⟨_,Za rfl⟩;rw [hX.out];have HSZ:=Za ht.size;have HXD:Hid (X=(match QaU (Qat s (Qaw s f) (QaN bl) e) [101,83] pos with
  | .no q err=>.no q err
  | .ok q ns=>match Qbf s 1 (QaN bl) q e with
    | .no err=>.no q err
    | .ok c=>match QaU (Qat s (Qaw s f) (QaN bl) e) (List.replicate c 83) (q+1) with
      | .no r err=>.no r err
      | .ok r ms=>.ok r (⟨31,0,[],(2+c:Nat)⟩::(ns++ms)))):=Za (by rw [<- hX.out]<;>rfl)
 have HSL:=Za hs;clear hX ht hp he hf ho hbl hs hK;go_enter Tryz.func110,Tryz.ntmps110;go_wp2_with fail;((with_reducible refine HA.out.mono ?_));rintro en w1 ⟨rfl,ht1,hb1⟩;have HT1:=Za ht1;have HB1:=Za hb1;clear ht1 hb1 HA;obtain ⟨K1,hK1⟩:∃ Z,QaU (Qat s (Qaw s f) (QaN bl) e) [101,83] pos=Z:=⟨_,rfl⟩;have HCP:=Za (HK.out [101,83] w1 pos e bl o [] 31 0 [] 0 HT1.out HI.out.1 HI.out.2.1 HI.out.2.2.1 (by have:=HI.out.2.2.2.1;simp;omega) HI.out.2.2.2.2 (by simp) (by omega));have HG1:=Za (HGC.out [101,83] pos HI.out.1);rw [hK1] at HCP HXD HG1;clear hK1 HT1;cases K1 with
 | no q err =>
   have HXX:Hid (X = .no q err):=HXD;go_wp2_with fail;((with_reducible refine HCP.out.mono ?_));intro en w2 hpz;obtain ⟨rfl,ht2,hb2⟩:=Qek hpz;have HB2:=Za (HB1.out.trans hb2);have HT2:=Za ht2;clear hb2 ht2 HCP hpz;go_wp2_with fail;go_ret;rw [HXX.out];exact ⟨HB2.out,rfl,HT2.out⟩
 | ok q ns =>
   go_wp2_with fail;((with_reducible refine HCP.out.mono ?_));intro en w3 hpz;obtain ⟨rfl,ht2,hb2⟩:=Qel hpz;have HB3':=Za (HB1.out.trans hb2);rw [List.nil_append] at ht2;have HT3:=Za ht2;clear hb2 ht2 HCP hpz;have HG1:Hid (pos<=q/\q<=e/\ns.length+pos<=q):=Za ⟨HG1.out.1,HG1.out.2.1,HG1.out.2.2.1⟩;have HQ3:Hid (q<=e/\e<=s.length):=Za ⟨HG1.out.2.1,HI.out.2.1⟩;obtain ⟨Z3,hZ3⟩:∃ Z,Qbf s 1 (QaN bl) q e=Z:=⟨_,rfl⟩;have HCC3:=Za (Qja B b 1 1 rfl w3 s q e bl _ HT3.out HQ3.out.1 HQ3.out.2 (by have:=HSL.out;omega));rw [hZ3] at HCC3 HXD;have HZ3:=Za hZ3;clear hZ3 HT3;cases Z3 with
   | no err =>
     have HXX:Hid (X = .no q err):=HXD;go_wp2_with fail;((with_reducible refine HCC3.out.mono ?_));rintro en w3c ⟨hb3c,rfl,ht3c⟩;have HBc:=Za (HB3'.out.trans hb3c);have HTc:=Za ht3c;clear hb3c ht3c HCC3;go_wp2_with fail;go_ret;rw [HXX.out];exact ⟨HBc.out,rfl,HTc.out⟩
   | ok c =>
     have hc1:=(Qcd HZ3.out).1;have hc2:=(Qcd HZ3.out).2.1;go_wp2_with fail;((with_reducible refine HCC3.out.mono ?_));rintro en w3c ⟨hb3c,rfl,ht3c⟩;have HB3:=Za (HB3'.out.trans hb3c);have HT3:=Za ht3c;have HPN3:Hid (q+1<=e):=Za (by have:=HQ3.out.1;omega);clear hb3c ht3c HCC3 hc1 HZ3;have HXE:Hid (X=(match QaU (Qat s (Qaw s f) (QaN bl) e) (List.replicate c 83) (q+1) with
      | .no r err=>.no r err
      | .ok r ms=>.ok r (⟨31,0,[],(2+c:Nat)⟩::(ns++ms)))):=HXD
     clear HXD;have hc01:c=0\/c=1:=by omega
     clear hc2;rcases hc01 with rfl|rfl
     ·obtain ⟨Y,hY⟩:∃ Y,QaU (Qat s (Qaw s f) (QaN bl) e) [] (q+1)=Y:=⟨_,rfl⟩;have HC:=Za (HK.out [] w3c (q+1) e bl o ns 31 0 [] 2 (HT3.out) (by have:=HPN3.out;omega) HI.out.2.1 (by have:=HI.out.2.2.1;have:=HG1.out.1;omega) (by have:=HI.out.2.2.2.1;have:=HG1.out;omega) (by have:=HI.out.2.2.2.2;have:=HG1.out.1;omega) (by simp) (by omega));rw [hY] at HC;have HXE2:=HXE;(try simp only [List.replicate_zero,List.replicate_succ] at HXE2);rw [hY] at HXE2;clear HXE;have HXE:=HXE2;clear HXE2 hY HK HGC HI;(try rw [show (⟨([]:List UInt8).toArray⟩:ByteArray)=ByteArray.empty from rfl] at HC);cases Y with
      | no q err =>
        have HXX:Hid (X = .no q err):=Za (HXE.out);go_wp2_with fail;((with_reducible refine HC.out.mono ?_));intro en wz hpz;obtain ⟨rfl,htz,hbz⟩:=Qek hpz;have HBZ:=Za (HB3.out.trans hbz);have HTZ:=Za htz;clear hpz htz hbz HC;go_wp2_with fail;go_ret;rw [HXX.out];exact ⟨HBZ.out,rfl,HTZ.out⟩
      | ok q ns =>
        have HXX:=Za (HXE.out);go_wp2_with fail;((with_reducible refine HC.out.mono ?_));intro en wz hpz;obtain ⟨rfl,htz,hbz⟩:=Qel hpz;have HBZ:=Za (HB3.out.trans hbz);have HTZ:=Za htz;clear hpz htz hbz HC;go_wp2_with fail;go_ret;rw [HXX.out];exact ⟨HBZ.out,rfl,(HTZ.out)⟩
     ·obtain ⟨Y,hY⟩:∃ Y,QaU (Qat s (Qaw s f) (QaN bl) e) [83] (q+1)=Y:=⟨_,rfl⟩;have HC:=Za (HK.out [83] w3c (q+1) e bl o ns 31 0 [] 2 (HT3.out) (by have:=HPN3.out;omega) HI.out.2.1 (by have:=HI.out.2.2.1;have:=HG1.out.1;omega) (by have:=HI.out.2.2.2.1;have:=HG1.out;omega) (by have:=HI.out.2.2.2.2;have:=HG1.out.1;omega) (by simp) (by omega));rw [hY] at HC;have HXE2:=HXE;(try simp only [List.replicate_zero,List.replicate_succ] at HXE2);rw [hY] at HXE2;clear HXE;have HXE:=HXE2;clear HXE2 hY HK HGC HI;(try rw [show (⟨([]:List UInt8).toArray⟩:ByteArray)=ByteArray.empty from rfl] at HC);cases Y with
      | no q err =>
        have HXX:Hid (X = .no q err):=Za (HXE.out);go_wp2_with fail;((with_reducible refine HC.out.mono ?_));intro en wz hpz;obtain ⟨rfl,htz,hbz⟩:=Qek hpz;have HBZ:=Za (HB3.out.trans hbz);have HTZ:=Za htz;clear hpz htz hbz HC;go_wp2_with fail;go_ret;rw [HXX.out];exact ⟨HBZ.out,rfl,HTZ.out⟩
      | ok q ns =>
        have HXX:=Za (HXE.out);go_wp2_with fail;((with_reducible refine HC.out.mono ?_));intro en wz hpz;obtain ⟨rfl,htz,hbz⟩:=Qel hpz;have HBZ:=Za (HB3.out.trans hbz);have HTZ:=Za htz;clear hpz htz hbz HC;go_wp2_with fail;go_ret;rw [HXX.out];exact ⟨HBZ.out,rfl,(HTZ.out)⟩
theorem Qlh (B b:Nat) (s:List UInt8) (f:Nat) (hs:s.length<=65536) (hK:QlQ B b s f):OpT B b s f:=by
 intro op w pos e bl o hop ht hp he hf ho hbl;by_cases h5:op=5
 ·subst h5;exact Qwz B b s f hs hK w pos e bl o ht hp he hf ho hbl
 by_cases h33:op=33
 ·subst h33;exact Qvj B b s f hs hK w pos e bl o ht hp he hf ho hbl
 by_cases h31:op=31
 ·subst h31;exact Qvk B b s f hs hK w pos e bl o ht hp he hf ho hbl
 exact QtB B b s f hs hK op hop h5 h33 h31 w pos e bl o ht hp he hf ho hbl
end
section
open Go.RowKit
attribute [local go_sem] ByteArray.mk_append_mk Qac Qad Qae
def Qqy (w:World) (b:Nat):Nat:=match w.cell? ⟨b,1,none⟩ with
 | some (.int _ z)=>z.toNat
 | _=>0
theorem TSt.posIs {B b:Nat} {w:World} {s:List UInt8} {pos e bl:Nat} {o:List Nd} (h:TSt B b w s pos e bl o):Qqy w b=pos:=by
 obtain ⟨nv,h1,_⟩:=h.ex;unfold Qqy;rw [(Qa8 h1).2.1];simp
def QvY (sub:Nat->DR) (e f c:Nat) (ns:List Nd):DR->DR
 | .no q err=>.no q err
 | .ok q ms=>QbQ sub e f (c+1) (ns++ms) q
theorem QjJ {sub:Nat->DR} {e f c pos:Nat} {ns:List Nd} (h:pos≠e):QbQ sub e (f+1) c ns pos=QvY sub e f c ns (sub pos):=by
 rw [QbQ,if_neg h];cases sub pos<;>rfl
set_option maxRecDepth 100000 in
theorem Qot (B b:Nat) (s:List UInt8) (f:Nat) (hs:s.length<=65536) (hS:QpY B b s f):Qwy B b s f:=by
 intro k w pos e bl o ht hp he hf ho hbl;have HS:=Za hS;unfold QpY at HS;have HI:=Za (show pos<=e/\e<=s.length/\s.length<pos+f/\o.length<=pos/\bl<=pos from ⟨hp,he,hf,ho,hbl⟩);have HSL:=Za hs;have HR:=Za (Qhg B b w s pos e bl o ht hp he (by omega));obtain ⟨X,hX⟩:∃ X,Hid (Qdl s (Qaw s f) k (QaN bl) pos e=X):=⟨_,Za rfl⟩;rw [hX.out];have hXd:=hX.out;unfold Qdl at hXd;have hrl:=Qbo hp he;obtain ⟨rs,hrs⟩:∃ rs,Qam s pos e=rs:=⟨_,rfl⟩;rw [hrs] at HR hXd hrl;have hln:=fun w=>Qpy rs w (by omega);have hbk:=Qf6 rs;obtain ⟨n,m,er,hq⟩:∃ n m er,QbE rs=(n,m,er):=⟨_,_,_,rfl⟩;rw [hq] at hXd hbk;have HLN:Hid (∀ w,Calls Tryz.prog 232 #[.string ⟨rs.toArray⟩] w fun e w'=>e = .returned (.tuple #[.int .i64 n,.int .i64 m,.int .i64 er])/\Below w.heap.size w w'):=Za (fun w=>by
  have h:=hln w;rw [hq] at h;exact h)
 simp only [] at hXd;have HX:=Za hXd;have HT0:=Za ht;have HSZ:=Za ht.size;obtain ⟨pz,hpz⟩:∃ z:Int,(pos:Int)=z:=⟨_,rfl⟩;obtain ⟨ez,hez⟩:∃ z:Int,(e:Int)=z:=⟨_,rfl⟩;obtain ⟨mz,hmz⟩:∃ z:Int,(m:Int)=z:=⟨_,rfl⟩;have HZ:=Za (show (pos:Int)=pz/\(e:Int)=ez/\(m:Int)=mz from ⟨hpz,hez,hmz⟩);have b1:0<=pz:=by omega
 have b2:pz<=ez:=by omega
 have b3:ez<=70000:=by omega
 have b4:0<=mz:=by omega
 rw [hmz] at HLN;clear hX hXd hrs hln hq hS ht;by_cases her:er=0
 ·subst her;obtain ⟨k1,k2,k3,k4⟩:=hbk n m rfl;rw [hrl] at k2;obtain ⟨N,rfl⟩:∃ N:Nat,n=N:=⟨n.toNat,by omega⟩;obtain ⟨nz,hnz⟩:∃ z:Int,(N:Int)=z:=⟨_,rfl⟩;have HNZ:=Za hnz;have b5:0<=nz:=by omega
  have b6:mz<=ez-pz:=by omega
  rw [hnz] at HLN;rw [show (((0:Nat)):Int)=0 from rfl] at HLN;have HM1:Hid (1<=m/\m<=e-pos):=Za ⟨k3,k2⟩;by_cases hcmp:(e:Int)-pos-m<(N:Int)
  ·have HXX:Hid (X = .no pos (QeU (QaN bl))):=Za (by rw [<- HX.out,if_pos rfl,if_pos hcmp]);have hc':ez-pz-mz<nz:=by omega
   have hdec:decide (ez-pz-mz<nz)=true:=decide_eq_true hc';clear k1 k2 k3 k4 hbk hrl hs hp he hf ho hbl hcmp hpz hez hmz hnz;go_enter Tryz.func207,Tryz.ntmps207;go_wp2_with fail;((with_reducible refine HR.out.mono ?_));rintro en w1 ⟨rfl,nq,rfl⟩;go_wp2_with fail;((with_reducible refine (HLN.out _).mono ?_));rintro en w2 ⟨rfl,hb2⟩;have HT2:=Za ((HT0.out.below (below_drewN Zb nq)).below hb2);have HB2:Hid (Below B w w2):=Za ((below_drewN Zb nq).trans (hb2.mono (by simpa using HSZ.out)));clear hb2 HT0 HR HLN;obtain ⟨nv,h1,h2⟩:=HT2.out.ex;obtain ⟨c0,c1,c2,c3,c4,c5⟩:=Qa8 h1;rw [HZ.out.1] at c1;rw [HZ.out.2.1] at c2;clear h1 h2;have HC:=Za (fun q=>QeW B b (w2.drewN q) s pos e bl o (HT2.out.below (below_drewN Zb q)));go_wp2_with fail;go_quiet (fail);go_wp2_with fail;((with_reducible refine (HC.out _).mono ?_));rintro en w3 ⟨rfl,hb,htb⟩;have HB:=Za hb;have HTB:=Za htb;clear hb htb HC;go_wp2_with fail;go_ret;rw [HXX.out];exact ⟨HB2.out.trans ((below_drewN Zb _).trans HB.out),rfl,HTB.out⟩
  ·have HXX:Hid (X=QbQ (fun q=>Qaw s f k true q (pos+m+N)) (pos+m+N) (s.length+1) 0 [] (pos+m)):=Za (by rw [<- HX.out,if_pos rfl,if_neg hcmp,Int.toNat_natCast]);have hc':¬ ez-pz-mz<nz:=by omega
   have hdec:decide (ez-pz-mz<nz)=false:=decide_eq_false hc';have HPN:Hid (pos+m+N<=e):=Za (by omega);obtain ⟨P,hP⟩:∃ P,pos+m=P:=⟨_,rfl⟩;have HPP:=Za hP;rw [hP] at HXX HPN;obtain ⟨E,hE⟩:∃ E,P+N=E:=⟨_,rfl⟩;have HEE:=Za hE;rw [hE] at HXX HPN;obtain ⟨qz,hqz⟩:∃ z:Int,(P:Int)=z:=⟨_,rfl⟩;have HQZ:=Za hqz;have b7:0<=qz:=by omega
   have b8:qz+nz<=70000:=by omega
   have HEZ:Hid ((E:Int)=qz+nz):=Za (by omega);clear k1 k2 k3 k4 hbk hrl hs hp he hf ho hbl hcmp hpz hez hmz hnz hP hE hqz;go_enter Tryz.func207,Tryz.ntmps207;go_wp2_with fail;((with_reducible refine HR.out.mono ?_));rintro en w1 ⟨rfl,nq,rfl⟩;go_wp2_with fail;((with_reducible refine (HLN.out _).mono ?_));rintro en w2 ⟨rfl,hb2⟩;have HT2:=Za ((HT0.out.below (below_drewN Zb nq)).below hb2);have HB2:Hid (Below B w w2):=Za ((below_drewN Zb nq).trans (hb2.mono (by simpa using HSZ.out)));clear hb2 HT0 HR HLN;obtain ⟨nv,h1,h2⟩:=HT2.out.ex;obtain ⟨c0,c1,c2,c3,c4,c5⟩:=Qa8 h1;rw [HZ.out.1] at c1;rw [HZ.out.2.1] at c2;clear h1 h2;have HC:Hid (∀ q,Calls Tryz.prog 107 #[.pointer (some ⟨b,0,none⟩),.int .i64 mz,.int .i64 0] (w2.drewN q) fun en w'=>en = .returned (.bool true)/\TSt B b w' s P e bl o/\Below B (w2.drewN q) w'):=Za (fun q=>by
    have h:=Qhi B b m (w2.drewN q) s pos e bl o (HT2.out.below (below_drewN Zb q)) (by have:=HI.out;have:=HM1.out;have:=HSL.out;omega);rw [HZ.out.2.2,HPP.out] at h;exact h)
   go_wp2_with fail;go_quiet (fail);go_wp2_with fail;((with_reducible refine (HC.out _).mono ?_));rintro en w3 ⟨rfl,ht3,hb3⟩;have HB3:Hid (Below B w w3):=Za (HB2.out.trans ((below_drewN Zb _).trans hb3));have HA:Hid (Calls Tryz.prog 106 #[.pointer (some ⟨b,0,none⟩),.agg #[.int .i64 4,.int .u64 0,.string ⟨#[]⟩,.int .i64 0]] w3 fun en w'=>en = .returned (.int .i64 o.length)/\TSt B b w' s P e bl (o++[⟨4,0,[],0⟩])/\Below B w3 w'):=Za (QcH B b 4 0 0 [] w3 s P e bl o ht3 (by have:=HI.out;have:=HSL.out;omega));clear ht3 hb3 HC c0 c1 c2 c3 c4 c5 HT2 HB2;go_wp2_with fail;((with_reducible refine HA.out.mono ?_));rintro en w4 ⟨rfl,ht4,hb4⟩;have HT4:=Za ht4;have HB4:=Za (HB3.out.trans hb4);clear ht4 hb4 HA HB3;obtain ⟨nv4,h1,h2⟩:=HT4.out.ex;obtain ⟨c0,c1,c2,c3,c4,c5⟩:=Qa8 h1;have f2:=Qay h1 2;rw [HQZ.out] at c1;rw [HZ.out.2.1] at c2;clear h1 h2;go_upto_region 9 with fail;have HT5:Hid (TSt B b (w4.setCell ⟨b,2,none⟩ (.int .i64 (qz+nz))) s P E bl (o++[⟨4,0,[],0⟩])):=Za (by rw [<- HEZ.out];exact HT4.out.setEnd E);have HB5:Hid (Below B w (w4.setCell ⟨b,2,none⟩ (.int .i64 (qz+nz)))):=Za (HB4.out.trans (HT4.out.set 2 _));generalize w4.setCell ⟨b,2,none⟩ (.int .i64 (qz+nz))=w5 at HT5 HB5 |-;clear c0 c1 c2 c3 c4 c5 f2 HT4 HB4;obtain ⟨nv5,h1,h2⟩:=HT5.out.ex;obtain ⟨c0,c1,c2,c3,c4,c5⟩:=Qa8 h1;have f3:=Qay h1 3;obtain ⟨bz,hbz⟩:∃ z:Int,(bl:Int)=z:=⟨_,rfl⟩;have HBZ:=Za hbz;have b9:0<=bz:=by omega
   have b10:bz<=70000:=by have:=HI.out;have:=HSL.out;omega
   rw [hbz] at c3;have HBZ1:Hid (((bl+1:Nat):Int)=bz+1):=Za (by omega);clear h1 h2 hbz;go_upto_region 10 with fail;have HT6:Hid (TSt B b (w5.setCell ⟨b,3,none⟩ (.int .i64 (bz+1))) s P E (bl+1) (o++[⟨4,0,[],0⟩])):=Za (by rw [<- HBZ1.out];exact HT5.out.setBl (bl+1));have HB6:Hid (Below B w (w5.setCell ⟨b,3,none⟩ (.int .i64 (bz+1)))):=Za (HB5.out.trans (HT5.out.set 3 _));generalize w5.setCell ⟨b,3,none⟩ (.int .i64 (bz+1))=w6 at HT6 HB6 |-;clear c0 c1 c2 c3 c4 c5 f3 HT5 HB5;have HSTART:Hid (∃ (cc pq F:Nat) (M:List Nd),TSt B b w6 s pq E (bl+1) (o++⟨4,0,[],(cc:Nat)⟩::M)/\X=QbQ (fun q=>Qaw s f k true q E) E F cc M pq/\(P<=pq/\pq<=E/\s.length<pq+F/\o.length+1+M.length<=pq/\cc<=pq)/\Below B w w6):=Za
    ⟨0,P,s.length+1,[],HT6.out,HXX.out,⟨Nat.le_refl _,by have:=HEE.out;omega,by omega,by have:=HI.out.2.2.2.1;have:=HM1.out.1;have:=HPP.out;simp;omega,Nat.zero_le _⟩,HB6.out⟩
   have HIN:Hid (QaN (bl+1)=true):=Za (by unfold QaN;exact decide_eq_true (by omega));clear HT6 HXX HB6 HX;go_wp2_with fail;go_loopw [72] (fun z wr=>∃ u:Value,u=z/\Hid (∃ (cc pq F:Nat) (M:List Nd),TSt B b wr s pq E (bl+1) (o++⟨4,0,[],(cc:Nat)⟩::M)/\X=QbQ (fun q=>Qaw s f k true q E) E F cc M pq/\(P<=pq/\pq<=E/\s.length<pq+F/\o.length+1+M.length<=pq/\cc<=pq)/\Below B w wr)) (fun _ wr=>E-Qqy wr b)
   case atStart=>exact ⟨_,rfl,HSTART⟩
   case round =>
    obtain ⟨u,rfl,HREL⟩:=hrel;obtain ⟨w7,rfl⟩:∃ y:World,y=wr:=⟨_,rfl⟩;clear HSTART;obtain ⟨cc,pq,F,M,ht7,hx7,hi7,hb7⟩:=HREL.out;have HT:=Za ht7;have HX:=Za hx7;have HJ:=Za hi7;have HBW:=Za hb7;clear ht7 hx7 hi7 hb7 HREL;have HM7:=Za HT.out.posIs;obtain ⟨nv7,h1,h2⟩:=HT.out.ex;obtain ⟨c0,c1,c2,c3,c4,c5⟩:=Qa8 h1;obtain ⟨yz,hyz⟩:∃ z:Int,(pq:Int)=z:=⟨_,rfl⟩;obtain ⟨yE,hyE⟩:∃ z:Int,(E:Int)=z:=⟨_,rfl⟩;rw [hyz] at c1;rw [hyE] at c2;clear h1 h2;by_cases hlt:pq<E
    ·have hlt':yz<yE:=by omega
     obtain ⟨F',hF⟩:∃ F',F=F'+1:=⟨F-1,by have:=HJ.out;have:=HPN.out;have:=HI.out;omega⟩;obtain ⟨Y,hY⟩:∃ Y,Qaw s f k true pq E=Y:=⟨_,rfl⟩;have HDG:=Za (Qbj s f k true pq E (Nat.le_of_lt hlt) (by have:=HPN.out;have:=HI.out;omega));rw [hY] at HDG;have HC:Hid (∀ q,Calls Tryz.prog 55 #[.pointer (some ⟨b,0,none⟩),.int .u8 k.toNat] (w7.drewN q) (TPost B b (w7.drewN q) s E (bl+1) (o++⟨4,0,[],(cc:Nat)⟩::M) Y)):=Za (fun q=>by
      have h:=HS.out k (w7.drewN q) pq E (bl+1) _ (HT.out.below (below_drewN Zb q)) (Nat.le_of_lt hlt) (by have:=HPN.out;have:=HI.out;omega) (by have:=HJ.out;have:=HI.out;have:=HPP.out;omega) (by have:=HJ.out;simp only [List.length_append,List.length_cons];omega) (by have:=HJ.out;have:=HI.out;have:=HPP.out;have:=HM1.out;omega);rw [HIN.out,hY] at h;exact h)
     have HXE:Hid (X=QvY (fun q=>Qaw s f k true q E) E F' cc M Y):=Za (by rw [HX.out,hF,QjJ (by omega)];exact congrArg _ hY);have HFF:=Za hF;clear hY hyz hyE hlt hF HT;cases Y with
     | no r err =>
       have HXX:Hid (X = .no r err):=HXE;go_wp2_with fail;go_quiet (fail);go_wp2_with fail;((with_reducible refine (HC.out _).mono ?_));rintro en w8 ⟨hb8,rfl,ht8⟩;have HB8:=Za (HBW.out.trans ((below_drewN Zb _).trans hb8));have HT8:=Za ht8;clear hb8 ht8 HC;go_wp2_with fail;go_ret;rw [HXX.out];exact ⟨HB8.out,rfl,HT8.out⟩
     | ok r ms =>
       have HXX:Hid (X=QbQ (fun q=>Qaw s f k true q E) E F' (cc+1) (M++ms) r):=HXE;have HJ2:Hid (P<=r/\r<=E/\s.length<r+F'/\o.length+1+(M++ms).length<=r/\cc+1<=r):=Za (by
        have:=HJ.out;obtain ⟨d1,d2,d3,_⟩:=HDG.out;have:=HFF.out;rw [List.length_append];omega)
       have HPR:Hid (pq<r/\r<=E):=Za ⟨HDG.out.1,HDG.out.2.1⟩;go_wp2_with fail;go_quiet (fail);go_wp2_with fail;((with_reducible refine (HC.out _).mono ?_));rintro en w8 ⟨hb8,rfl,ht8⟩;have HB8:=Za (HBW.out.trans ((below_drewN Zb _).trans hb8));rw [List.append_assoc,List.cons_append] at ht8;obtain ⟨g,cp,hblk,hcell,hfr,hst,_⟩:=ht8.kids;clear c0 c1 c2 c3 c4 c5;obtain ⟨d0,d1,d2,d3,d4,d5⟩:=Qa8 hblk;obtain ⟨cz,hcz⟩:∃ cz:Int,((cc:Nat):Int)=cz:=⟨_,rfl⟩;have HST:=Za (hst (cz+1));obtain ⟨nl,hnl⟩:∃ nl:Nat,(o++⟨4,0,[],((cc:Nat):Int)⟩::(M++ms)).length=nl:=⟨_,rfl⟩;rw [hnl] at d4;have hnl2:(o.length:Int)<(nl:Int):=by rw [<- hnl];simp only [List.length_append,List.length_cons];omega
       have hcz0:0<=cz:=by omega
       have hcz1:cz<=70000:=by have:=HJ.out;have:=HPN.out;have:=HI.out;have:=HSL.out;omega
       rw [hcz] at hcell;have HCZ:Hid (((cc+1:Nat):Int)=cz+1):=Za (by omega);clear hb8 ht8 HC hblk hst hnl hcz HXE HX HJ HBW HDG;go_wp2_with fail;have HB9:=Za (HB8.out.trans HST.out.2);have HT9:Hid (TSt B b _ s r E (bl+1) (o++⟨4,0,[],((cc+1:Nat):Int)⟩::(M++ms))):=Za (by rw [HCZ.out];exact HST.out.1);have HNEW:Hid (∃ (cc pq F:Nat) (M:List Nd),TSt B b _ s pq E (bl+1) (o++⟨4,0,[],(cc:Nat)⟩::M)/\X=QbQ (fun q=>Qaw s f k true q E) E F cc M pq/\(P<=pq/\pq<=E/\s.length<pq+F/\o.length+1+M.length<=pq/\cc<=pq)/\Below B w _):=Za ⟨cc+1,r,F',M++ms,HT9.out,HXX.out,HJ2.out,HB9.out⟩;have HM8:=Za HT9.out.posIs;go_roundw
       case rel=>first|exact ⟨_,rfl,HNEW⟩|exact ⟨_,_,rfl,HNEW⟩|exact ⟨_,_,_,rfl,HNEW⟩
       case measure=>rw [HM8.out,HM7.out];have:=HPR.out;omega
    ·have hlt':¬ yz<yE:=by omega
     have hpE:pq=E:=by have:=HJ.out;omega
     have HXX:Hid (X = .ok pq (⟨4,0,[],(cc:Nat)⟩::M)):=Za (by
      obtain ⟨F',hF⟩:∃ F',F=F'+1:=⟨F-1,by have:=HJ.out;have:=HPN.out;have:=HI.out;omega⟩;rw [HX.out,hF,QbQ,if_pos hpE])
     clear hyz hyE hlt hpE HX HM7;go_upto_region 14 with fail;go_quiet (fail);generalize hW:w7.drewN _=W;have HTW:Hid (TSt B b W s pq E (bl+1) (o++⟨4,0,[],(cc:Nat)⟩::M)):=Za (hW▸HT.out.below (below_drewN Zb _));have HBX:Hid (Below B w W):=Za (HBW.out.trans (hW▸below_drewN Zb _));clear hW c0 c1 c2 c3 c4 c5 HT HBW;obtain ⟨nv8,h1,h2⟩:=HTW.out.ex;obtain ⟨c0,c1,c2,c3,c4,c5⟩:=Qa8 h1;have f3:=Qay h1 3;rw [HBZ1.out] at c3;clear h1 h2;go_upto_region 15 with fail;have HT8:Hid (TSt B b (W.setCell ⟨b,3,none⟩ (.int .i64 bz)) s pq E bl (o++⟨4,0,[],(cc:Nat)⟩::M)):=Za (by rw [<- HBZ.out];exact HTW.out.setBl bl);have HB8:Hid (Below B w (W.setCell ⟨b,3,none⟩ (.int .i64 bz))):=Za (HBX.out.trans (HTW.out.set 3 _));generalize W.setCell ⟨b,3,none⟩ (.int .i64 bz)=w8 at HT8 HB8 |-;clear c0 c1 c2 c3 c4 c5 f3 HTW HBX;obtain ⟨nv9,h1,h2⟩:=HT8.out.ex;obtain ⟨c0,c1,c2,c3,c4,c5⟩:=Qa8 h1;have f2:=Qay h1 2;clear h1 h2;go_wp2_with fail;have HT9:Hid (TSt B b (w8.setCell ⟨b,2,none⟩ (.int .i64 ez)) s pq e bl (o++⟨4,0,[],(cc:Nat)⟩::M)):=Za (by rw [<- HZ.out.2.1];exact HT8.out.setEnd e);have HB9:Hid (Below B w (w8.setCell ⟨b,2,none⟩ (.int .i64 ez))):=Za (HB8.out.trans (HT8.out.set 2 _));go_ret;rw [HXX.out];exact ⟨HB9.out,rfl,HT9.out⟩
 ·have HXX:Hid (X = .no pos (if (er:Int)=4 then QeU (QaN bl) else 3)):=Za (by
   rw [<- HX.out,if_neg her];unfold QhA;by_cases h4:er=4
   ·rw [if_pos h4,if_pos (by omega)]
   ·rw [if_neg h4,if_neg (by omega)])
  obtain ⟨rz,hrz⟩:∃ z:Int,(er:Int)=z:=⟨_,rfl⟩;rw [hrz] at HXX HLN;have her':(rz==0)=false:=by rw [beq_eq_false_iff_ne];omega
  have HER:Hid (rz≠0):=Za (by omega);clear hbk hrl hs hp he hf ho hbl hpz hez hmz her hrz HX;go_enter Tryz.func207,Tryz.ntmps207;go_wp2_with fail;((with_reducible refine HR.out.mono ?_));rintro en w1 ⟨rfl,nq,rfl⟩;go_wp2_with fail;((with_reducible refine (HLN.out _).mono ?_));rintro en w2 ⟨rfl,hb2⟩;have HT2:=Za ((HT0.out.below (below_drewN Zb nq)).below hb2);have HB2:Hid (Below B w w2):=Za ((below_drewN Zb nq).trans (hb2.mono (by simpa using HSZ.out)));clear hb2 HT0 HR HLN;have HC:=Za (fun q=>Qi9 B b mz rz HER.out (w2.drewN q) s pos e bl o (HT2.out.below (below_drewN Zb q)));go_wp2_with fail;go_quiet (fail);go_wp2_with fail;((with_reducible refine (HC.out _).mono ?_));rintro en w3 ⟨rfl,hb,htb⟩;have HB:=Za hb;have HTB:=Za htb;clear hb htb HC;go_wp2_with fail;go_ret;rw [HXX.out];exact ⟨HB2.out.trans ((below_drewN Zb _).trans HB.out),rfl,HTB.out⟩
end
end Go.Proofs.YtoohondkpddmcaaGreatDoor
