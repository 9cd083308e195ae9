/- Py -/
import Derived.Test.YtoohondkpddmcaaGreatDoorUzz
import Derived.Test.YtoohondkpddmcaaGreatDoorUbm
namespace Go.Proofs.YtoohondkpddmcaaGreatDoor
set_option maxHeartbeats 32000000
set_option linter.unusedVariables false
set_option linter.unusedSimpArgs false
open Go.RowKit
attribute [local go_sem] ByteArray.mk_append_mk Qac Qad Qae
def NVL (w:World) (B N M:Nat) (v:Value):Prop:=∃ ns:List Nd,NodesI w B v ns/\(∀ t∈ns,NdG t)/\ns.length<=N/\ns≠[]/\Tre (dpN N) ns/\M<=ns.length
theorem NVL.base {w:World} {B B' N M:Nat} {v:Value} (h:NVL w B N M v) (hB:B'<=B):NVL w B' N M v:=by
 obtain ⟨ns,h1,h2⟩:=h;exact ⟨ns,h1.base hB,h2⟩
theorem Tre.pos {h:Nat} {l:List Nd} (t:Tre h l):1<=l.length:=by
 cases t<;>simp
theorem QoL:∀ (ks:List (List Nd)),(∀ k∈ks,1<=k.length)->ks.length<=ks.flatten.length
 | [],_=>by simp
 | k::ks,h=>by
   have h1:=h k (List.mem_cons_self ..);have h2:=QoL ks (fun x hx=>h x (List.mem_cons_of_mem _ hx));rw [List.flatten_cons,List.length_append,List.length_cons];omega
theorem KT.len {Ns:List Nat} {n:Nd} {k:Nat} {l:List Nd} (h:KT Ns n k l):1+k<=l.length:=by
 obtain ⟨ks,rfl,hl,hj⟩:=h;have:=QoL ks (fun x hx=>by
  obtain ⟨j,hjl,rfl⟩:=List.mem_iff_getElem.1 hx;obtain ⟨_,h3⟩:=hj j hjl;exact h3.pos)
 rw [List.length_cons];omega
set_option maxRecDepth 100000 in
theorem Qp5 (op num:Int) (s:List UInt8) (kv:Value) (vs:List Value) (Ns:List Nat) (w:World) (hs:s.length<=6) (hn0:0<=num/\num<=18446744073709551615) (hnp:QaJ op->∃ g,dpN (1+Ns.sum)=g+1/\∀ N∈Ns,dpN N<=g) (hk:KSl w kv vs) (hNl:Ns.length=vs.length) (hv:∀ i (h:i<vs.length) (h2:i<Ns.length),NV w 0 Ns[i] vs[i]) (hm:vs.length<=10000) (h1:1+Ns.sum<=900000) :
  Calls Tryz.prog 94 #[.int .i64 op,.int .u64 num,.string ⟨s.toArray⟩,kv] w fun e w'=>∃ v,e = .returned v/\NVL w' w.heap.size (1+Ns.sum) (1+vs.length) v/\Below w.heap.size w w':=by
 have HKS:=Za hk;have HVS:=Za hv;obtain ⟨a,cap,rfl,hc⟩:=hk;have HC:=Za hc;obtain ⟨P,hP⟩:∃ P,w.heap.size=P:=⟨_,rfl⟩;have HPE:=Za hP;have HR0:Hid (NodesI (w.alloc (Qaj op num s vs.length)) P (.slice (some ⟨P,0,none⟩) 1 1) [⟨op,num,s,vs.length⟩]):=Za (by rw [<- hP];exact World.ownsRow_lit w (tcI [⟨op,num,s,vs.length⟩]).toArray 1 Zc (by unfold maxLen;omega) rfl);have HB0:Hid (Below P w (w.alloc (Qaj op num s vs.length))):=Za (Zb.alloc (by omega) _);obtain ⟨M,hM⟩:∃ M,vs.length=M:=⟨_,rfl⟩;have HM:=Za hM;have HNL:=Za hNl;have HNP:=Za hnp;have HKT0:Hid (KT Ns ⟨op,num,s,vs.length⟩ 0 [⟨op,num,s,vs.length⟩]):=Za ⟨[],rfl,rfl,fun j h=>(by cases h)⟩;rw [hM] at hm HR0 HB0 HKS HKT0;rw [hP,hM];clear hv hc hNl hnp;go_enter Tryz.func94,Tryz.ntmps94;go_upto_region 2 with fail;(try simp only [hP]);generalize w.alloc (Qaj op num s M)=W0 at HR0 HB0 |-;clear hP hM;go_wp2_with fail;go_loopw [9,10] (fun x i wr=>∃ (v:Value) (k:Nat) (ns:List Nd),v=x/\i = .int .i64 k/\k<=M/\ns.length<=1+(Ns.take k).sum/\Hid (KT Ns ⟨op,num,s,M⟩ k ns)/\Hid (NodesI wr P v ns)/\Hid (∀ t∈ns,NdG t)/\Hid (Below P w wr)) (fun _ i _=>M-(intOf i).toNat)
 case atStart=>exact ⟨_,0,_,rfl,rfl,by omega,by simp,HKT0,HR0,Za (by intro t ht;simp only [List.mem_cons,List.not_mem_nil,or_false] at ht;subst ht;exact ⟨hs,hn0⟩),HB0⟩
 case round =>
  clear HR0 HB0 HKT0;obtain ⟨v,k,ns,rfl,rfl,hkM,hnl,HKT,HR,HG,HB⟩:=hrel;obtain ⟨w3,rfl⟩:∃ y:World,y=wr:=⟨_,rfl⟩;have hsz:P<=w3.heap.size:=by have:=HB.out.size;have:=HPE.out;omega
  by_cases hlt:k<M
  ·have hlt':(k:Int)<(M:Int):=by omega
   have hkl:k<vs.length:=by rw [HM.out];exact hlt
   obtain ⟨b,off,rfl,hcell⟩:=HC.out (by rintro rfl;simp at hkl);have c0:=hcell k hkl;obtain ⟨y,hy⟩:∃ y,vs[k]=y:=⟨_,rfl⟩;rw [hy] at c0;have hbw:b<w.heap.size:=World.block_lt_of_cell? w _ c0;have d0:w3.cell? ⟨b,off+k,none⟩=some y:=(HB.out.cell (p:=⟨b,off+k,none⟩) (by rw [<- HPE.out];exact hbw)).trans c0;have hkN:k<Ns.length:=by rw [HNL.out];exact hkl
   have hvk:=HVS.out k hkl hkN;rw [hy] at hvk;obtain ⟨l2,j1,j2,j3,_,j5⟩:=hvk;have HKT2:Hid (KT Ns ⟨op,num,s,M⟩ (k+1) (ns++l2)):=Za (HKT.out.snoc hkN j5);have HY:Hid (NodesI w3 0 y l2):=Za (j1.below (HB.out.mono (by rw [HPE.out];exact Nat.le_refl _)));have HG2:=Za j2;have hkk:=Qlq Ns k hkN;have hkb:=QdF Ns k;have hkb2:=QdF Ns (k+1);obtain ⟨sk,hsk⟩:∃ z,(Ns.take k).sum=z:=⟨_,rfl⟩;obtain ⟨sk1,hsk1⟩:∃ z,(Ns.take (k+1)).sum=z:=⟨_,rfl⟩;obtain ⟨nk,hnk⟩:∃ z,Ns[k]=z:=⟨_,rfl⟩;rw [hsk] at hnl hkk hkb;rw [hsk1,hnk] at hkk;rw [hnk] at j3;clear hcell c0 hy j1 j2 j5 HKT;go_wp2_with (at_builtin;refine Qaq rfl _ _ rfl P v ns rfl HR.out 0 y l2 rfl HY.out (by omega) hsz ?_;intro v2 w2 ho hg;have HO:=Za ho;have HGR:=Za hg;clear ho hg);have HB5:Hid (Below P w w2):=Za (HB.out.grown HGR.out hsz (fun j hj=>Qap HR.out hj));have HG5:Hid (∀ t∈ns++l2,NdG t):=Za (fun t ht=>by
    rcases List.mem_append.1 ht with h|h
    ·exact HG.out t h
    ·exact HG2.out t h)
   have hln:(ns++l2).length<=1+(Ns.take (k+1)).sum:=by rw [List.length_append,hsk1];omega
   clear HGR d0 HY HR;go_wp2_with fail;go_roundw
   case rel=>first|exact ⟨k+1,ns++l2,by go_num,by omega,hln,HKT2,HO,HG5,HB5⟩|exact ⟨_,k+1,ns++l2,rfl,by go_num,by omega,hln,HKT2,HO,HG5,HB5⟩
   case measure=>simp [intOf];omega
  ·have hlt':¬ (k:Int)<(M:Int):=by omega
   have hkM2:k=M:=by omega
   go_wp2_with fail;go_ret;subst hkM2;exact ⟨_,rfl,⟨ns,HR.out,HG.out,by rw [List.take_of_length_le (by rw [HNL.out,HM.out];omega)] at hnl;exact hnl,HKT.out.ne,HKT.out.tre (by rw [HNL.out,HM.out]) HNP.out,HKT.out.len⟩,HB.out⟩
theorem Qp6 (op:Int) (kv:Value) (vs:List Value) (Ns:List Nat) (w:World) (hnp:QaJ op->∃ g,dpN (1+Ns.sum)=g+1/\∀ N∈Ns,dpN N<=g) (hk:KSl w kv vs) (hNl:Ns.length=vs.length) (hv:∀ i (h:i<vs.length) (h2:i<Ns.length),NV w 0 Ns[i] vs[i]) (hm:vs.length<=10000) (h1:1+Ns.sum<=900000) :
  Calls Tryz.prog 46 #[.int .i64 op,kv] w fun e w'=>∃ v,e = .returned v/\NVL w' w.heap.size (1+Ns.sum) (1+vs.length) v/\Below w.heap.size w w':=by
 have HN:=Za (Qp5 op 0 [] kv vs Ns w (by simp) (by omega) hnp hk hNl hv hm h1);generalize 1+Ns.sum=NN at HN |-;generalize 1+vs.length=MM at HN |-;clear hk hv hm h1 hNl hnp;go_enter Tryz.func46,Tryz.ntmps46;go_wp2_with fail;((with_reducible refine HN.out.mono ?_));rintro e w1 ⟨v,rfl,hv,hb⟩;have HV:=Za hv;have HB:=Za hb;clear hv hb;go_wp2_with fail;go_ret;exact ⟨_,rfl,HV.out,HB.out⟩
set_option maxRecDepth 100000 in
theorem QoM (C:Nat) (s:List UInt8) (w:World) (hc:CSt w C) (hs:s.length<=6) :
  Calls Tryz.prog 44 #[.pointer (some ⟨C,0,none⟩),.string ⟨s.toArray⟩] w (fun e w'=>∃ v,e = .returned v/\NVL w' w.heap.size 5 5 v/\CSt w' C/\Keep C w w'):=by
 have hB:Below w.heap.size w (w.alloc spO):=Zb.alloc Zc _;have HC1:=Za (hc.keep hB);have HK1:=Za (Keep.of (C:=C) hB);have HA:Hid ((w.alloc spO).heap[w.heap.size]?=some spO):=Za (heap_alloc_new _ _);have hCA:C<w.heap.size:=hc.lt;have HNX:=Za (Qal C 3 (w.alloc spO) HC1.out (by omega) (by omega));clear hB hc;go_enter Tryz.func44,Tryz.ntmps44;go_wp2_with fail;((with_reducible refine HNX.out.mono ?_));rintro e w4 ⟨k4,rfl,hk4,hc4,hkk4⟩;have hA2:w4.heap[w.heap.size]?=some spO:=(hkk4.block _ (lt_of_block HA.out) (fun e=>by injection e with e;omega)).trans HA.out;obtain ⟨x,hx,e0⟩:=QqB hA2 k4 (by omega);have hk45:(k4:Int)<3:=hk4;have HK4:=Za (HK1.out.trans hkk4);have HC4:=Za hc4;clear hc4 hkk4 HNX HC1 HK1 hA2 HA;have HF1x:=Za (Qax s w4 hs);go_wp2_with fail;((with_reducible refine HF1x.out.mono ?_));rintro e w1x ⟨v1x,rfl,hvv1,hbb1⟩;obtain ⟨a1x,n1x,c1x,rfl⟩:=hvv1.form;have HK1x:=Za (HK4.out.trans (Keep.of hbb1));have HC1x:=Za (HC4.out.keep hbb1);have HT1x:=Za (hvv1.base (B':=0) (Nat.zero_le _));clear hvv1 hbb1 HF1x;have HF2x:=Za (QaR x w1x hx);go_wp2_with fail;((with_reducible refine HF2x.out.mono ?_));rintro e w2x ⟨v2x,rfl,hvv2,hbb2⟩;obtain ⟨a2x,n2x,c2x,rfl⟩:=hvv2.form;have HT1xq2:=Za (HT1x.out.below hbb2);have HK2x:=Za (HK1x.out.trans (Keep.of hbb2));have HC2x:=Za (HC1x.out.keep hbb2);have HT2x:=Za (hvv2.base (B':=0) (Nat.zero_le _));clear hvv2 hbb2 HF2x;have HF3x:=Za (Qal C 4 w2x HC2x.out (by omega) (by omega));go_wp2_with fail;((with_reducible refine HF3x.out.mono ?_));rintro e w3x ⟨ka,rfl,hka,hcc3,hkk3⟩;have hka':(ka:Int)<4:=hka;have HT1xq2q3:=Za (HT1xq2.out.keep HC2x.out hkk3);have HT2xq3:=Za (HT2x.out.keep HC2x.out hkk3);have HK3x:=Za (HK2x.out.trans hkk3);have HC3x:=Za hcc3;clear hcc3 hkk3 HF3x;have HF4x:=Za (QaR (8 * (ka:Int)) w3x (by omega));go_wp2_with fail;((with_reducible refine HF4x.out.mono ?_));rintro e w4x ⟨v4x,rfl,hvv4,hbb4⟩;obtain ⟨a4x,n4x,c4x,rfl⟩:=hvv4.form;have HT1xq2q3q4:=Za (HT1xq2q3.out.below hbb4);have HT2xq3q4:=Za (HT2xq3.out.below hbb4);have HK4x:=Za (HK3x.out.trans (Keep.of hbb4));have HC4x:=Za (HC3x.out.keep hbb4);have HT4x:=Za (hvv4.base (B':=0) (Nat.zero_le _));clear hvv4 hbb4 HF4x;have HF5x:=Za (Qal C 32 w4x HC4x.out (by omega) (by omega));go_wp2_with fail;((with_reducible refine HF5x.out.mono ?_));rintro e w5x ⟨kb,rfl,hkb,hcc5,hkk5⟩;have hkb':(kb:Int)<32:=hkb;have HT1xq2q3q4q5:=Za (HT1xq2q3q4.out.keep HC4x.out hkk5);have HT2xq3q4q5:=Za (HT2xq3q4.out.keep HC4x.out hkk5);have HT4xq5:=Za (HT4x.out.keep HC4x.out hkk5);have HK5x:=Za (HK4x.out.trans hkk5);have HC5x:=Za hcc5;clear hcc5 hkk5 HF5x;have HF6x:=Za (QaR (16+(kb:Int)) w5x (by omega));go_wp2_with fail;((with_reducible refine HF6x.out.mono ?_));rintro e w6x ⟨v6x,rfl,hvv6,hbb6⟩;obtain ⟨a6x,n6x,c6x,rfl⟩:=hvv6.form;have HT1xq2q3q4q5q6:=Za (HT1xq2q3q4q5.out.below hbb6);have HT2xq3q4q5q6:=Za (HT2xq3q4q5.out.below hbb6);have HT4xq5q6:=Za (HT4xq5.out.below hbb6);have HK6x:=Za (HK5x.out.trans (Keep.of hbb6));have HC6x:=Za (HC5x.out.keep hbb6);have HT6x:=Za (hvv6.base (B':=0) (Nat.zero_le _));clear hvv6 hbb6 HF6x;have hal7:Below w6x.heap.size w6x (w6x.alloc (.cells #[.slice a1x n1x c1x,.slice a2x n2x c2x,.slice a4x n4x c4x,.slice a6x n6x c6x] 24)):=Zb.alloc Zc _;have HKL7:=Za (KSl.lit w6x [.slice a1x n1x c1x,.slice a2x n2x c2x,.slice a4x n4x c4x,.slice a6x n6x c6x] 4 rfl);have HT1xq2q3q4q5q6z:=Za (HT1xq2q3q4q5q6.out.below hal7);have HT2xq3q4q5q6z:=Za (HT2xq3q4q5q6.out.below hal7);have HT4xq5q6z:=Za (HT4xq5q6.out.below hal7);have HT6xz:=Za (HT6x.out.below hal7);have HCz7:=Za (HC6x.out.keep hal7);have HKz7:=Za (HK6x.out.trans (Keep.of hal7));have HF7x:=Za (Qp6 15 _ [.slice a1x n1x c1x,.slice a2x n2x c2x,.slice a4x n4x c4x,.slice a6x n6x c6x] [1,1,1,1] (w6x.alloc (.cells #[.slice a1x n1x c1x,.slice a2x n2x c2x,.slice a4x n4x c4x,.slice a6x n6x c6x] 24)) (fun h=>by unfold QaJ at h;omega) HKL7.out rfl (fun i h1 h2=>by
  match i,h1 with
  | 0,_=>exact HT1xq2q3q4q5q6z.out
  | 1,_=>exact HT2xq3q4q5q6z.out
  | 2,_=>exact HT4xq5q6z.out
  | 3,_=>exact HT6xz.out) (by simp) (by simp only [List.sum_cons,List.sum_nil];omega))
 go_wp2_with fail;((with_reducible refine HF7x.out.mono ?_));rintro e w7x ⟨v7x,rfl,hvv7,hbb7⟩;have HK7x:=Za (HKz7.out.trans (Keep.of hbb7));have HC7x:=Za (HCz7.out.keep hbb7);have HVF:Hid (NVL w7x w.heap.size 5 5 v7x):=Za (hvv7.base (B':=w.heap.size) HKz7.out.size);clear hvv7 hbb7;go_wp2_with fail;go_ret;exact ⟨_,rfl,HVF.out,HC7x.out,HK7x.out⟩
set_option maxRecDepth 100000 in
theorem Qsb (C:Nat) (dep:Int) (K N:Nat) (hd : -10<=dep/\dep<=10) (hK:K<=20000) (hN:1+3 * K<=N) (ih:Qgj C dep K):Qc7 C dep N:=by
 intro a lp w ha0 ha7 hc;have HE:=Za ih;unfold Qgj at HE;have HCW:=Za hc;have HN:=Za (Qal C 4 w hc (by omega) (by omega));clear hc ih;go_enter Tryz.func96,Tryz.ntmps96;go_wp2_with fail;((with_reducible refine HN.out.mono ?_));rintro e w2 ⟨k2,rfl,hk2,hc3,hk3⟩;have HK3:=Za hk3;have HC3:=Za hc3;clear hc3 hk3 HN;go_wp2_with fail;go_loopw [9,10] (fun x i wr=>∃ (v:Value) (vs:List Value) (q:Nat),v=x/\i = .int .i64 q/\q+vs.length<=3/\Hid (KRow wr w.heap.size v vs)/\Hid (NVs wr K vs)/\Hid (CSt wr C)/\Hid (Keep C w wr)) (fun _ i _=>(intOf i).toNat)
 case atStart=>exact ⟨_,[],k2,rfl,rfl,by simp;omega,Za (KRow.nil _ _),Za (NVs.nil _ _),HC3,HK3⟩
 case round =>
  clear HC3 HK3;obtain ⟨v,vs,q,rfl,rfl,hq,HR,HV,HC,HK⟩:=hrel;obtain ⟨w3,rfl⟩:∃ y:World,y=wr:=⟨_,rfl⟩;by_cases hq0:0<q
  ·have hq1:(0:Int)<(q:Int):=by omega
   have HLF:=Za (QiI C w3 HC.out);go_wp2_with fail;((with_reducible refine HLF.out.mono ?_));rintro e w4 ⟨lb,rfl,hc4,hkk4⟩;have HR4:=Za (HR.out.keep HC.out hkk4);have HV4:=Za (HV.out.keep HC.out hkk4);have HK4:=Za (HK.out.trans hkk4);have HC4:=Za hc4;clear hc4 hkk4 HR HV HK HC HLF;cases lb with
   | false =>
     have HMUL:Hid (vs.length * K<=3 * K):=Za (Nat.mul_le_mul_right K (by omega));obtain ⟨av,cv,rfl⟩:=HR4.out.form;have HG:=Za (Qag 4 _ vs (List.replicate vs.length K) w4 (fun h=>by unfold QaJ at h;omega) HR4.out.sl (by simp) HV4.out.each (by omega) (by rw [QaV];have:=HMUL.out;omega));rw [QaV] at HG;go_wp2_with fail;((with_reducible refine HG.out.mono ?_));rintro e w9 ⟨v9,rfl,hv9,hb9⟩;have HV9:=Za ((hv9.base (B':=w.heap.size) HK4.out.size).more (M:=N) (by have:=HMUL.out;omega));have HC9:=Za (HC4.out.keep hb9);have HK9:=Za (HK4.out.trans (Keep.of hb9));clear hv9 hb9;go_wp2_with fail;go_ret;exact ⟨_,rfl,HV9.out,HC9.out,HK9.out⟩
   | true =>
     have HDD:=Za (HE.out a lp w4 ha0 ha7 HC4.out);unfold GPost at HDD;go_wp2_with fail;((with_reducible refine HDD.out.mono ?_));rintro e w5 ⟨v5,rfl,hv5,hc5,hk5⟩;obtain ⟨a5,n5,c5,rfl⟩:=hv5.form;have HR5:=Za (HR4.out.keep HC4.out hk5);have HV5:=Za (HV4.out.keep HC4.out hk5);have HC5:=Za hc5;have HK5:=Za (HK4.out.trans hk5);have HT5:=Za hv5;clear hv5 hc5 hk5 HR4 HV4 HC4 HK4;have hal:Below w5.heap.size w5 (w5.alloc (.cells #[.slice a5 n5 c5] 24)):=Zb.alloc Zc _;have HT6:=Za (HT5.out.below hal);have HR6:=Za (HR5.out.below hal);have HV6:=Za ((HV5.out.below hal).snoc ((HT5.out.below hal).base (Nat.zero_le _)));have HC6:=Za (HC5.out.keep hal);have HK6:=Za (HK5.out.trans (Keep.of hal));have HNN:Hid ((w5.alloc (.cells #[.slice a5 n5 c5] 24)).heap[w5.heap.size]?=some (.cells #[.slice a5 n5 c5] 24 (0,0))):=Za (heap_alloc_new _ _);have hone:=HT5.out.one;clear HR5 HV5 HC5 HK5 hal;go_wp2_with (at_builtin;refine Qa1 rfl _ _ rfl w.heap.size v vs rfl HR6.out w5.heap.size (.slice a5 n5 c5) hone rfl HNN.out (by omega) HK6.out.size ?_;intro v7 w7 ho hg;have HO:=Za ho;have HG7:=Za hg;clear ho hg);have HV7:=Za (HV6.out.grownRow HR6.out HG7.out);have HC7:=Za (HC6.out.grown HG7.out (fun g h=>by have:=Qap HR6.out h;have:=HCW.out.lt;omega));have HK7:=Za (HK6.out.grown HG7.out (fun g h=>Qap HR6.out h));have HT7:=Za (HT6.out.grownRow HR6.out HG7.out);obtain ⟨g5,op5,rfl,hn5,h5⟩:=HT7.out.head;obtain ⟨m5,rfl⟩:∃ m5,n5=m5+1:=⟨n5-1,by omega⟩;have hn5':(0:Int)<((m5+1:Nat):Int):=by omega
     have hn6:(0:Int)<(m5:Int)+1:=by omega
     clear HR6 HV6 HC6 HK6 HNN HG7 hone HT5 HT6 HT7;go_simp;by_cases o33:op5=33
     ·subst o33;obtain ⟨us,hus⟩:∃ us,vs++[.slice (some ⟨g5,0,none⟩) (m5+1) c5]=us:=⟨_,rfl⟩;have hul:us.length<=3:=by rw [<- hus,List.length_append,List.length_singleton];omega
      rw [hus] at HO HV7;clear hus;have HMUL:Hid (us.length * K<=3 * K):=Za (Nat.mul_le_mul_right K (by omega));obtain ⟨av,cv,rfl⟩:=HO.out.form;have HG:=Za (Qag 4 _ us (List.replicate us.length K) w7 (fun h=>by unfold QaJ at h;omega) HO.out.sl (by simp) HV7.out.each (by omega) (by rw [QaV];have:=HMUL.out;omega));rw [QaV] at HG;go_wp2_with fail;((with_reducible refine HG.out.mono ?_));rintro e w9 ⟨v9,rfl,hv9,hb9⟩;have HV9:=Za ((hv9.base (B':=w.heap.size) HK7.out.size).more (M:=N) (by have:=HMUL.out;omega));have HC9:=Za (HC7.out.keep hb9);have HK9:=Za (HK7.out.trans (Keep.of hb9));clear hv9 hb9;go_wp2_with fail;go_ret;exact ⟨_,rfl,HV9.out,HC9.out,HK9.out⟩
     by_cases o34:op5=34
     ·subst o34;obtain ⟨us,hus⟩:∃ us,vs++[.slice (some ⟨g5,0,none⟩) (m5+1) c5]=us:=⟨_,rfl⟩;have hul:us.length<=3:=by rw [<- hus,List.length_append,List.length_singleton];omega
      rw [hus] at HO HV7;clear hus;have HMUL:Hid (us.length * K<=3 * K):=Za (Nat.mul_le_mul_right K (by omega));obtain ⟨av,cv,rfl⟩:=HO.out.form;have HG:=Za (Qag 4 _ us (List.replicate us.length K) w7 (fun h=>by unfold QaJ at h;omega) HO.out.sl (by simp) HV7.out.each (by omega) (by rw [QaV];have:=HMUL.out;omega));rw [QaV] at HG;go_wp2_with fail;((with_reducible refine HG.out.mono ?_));rintro e w9 ⟨v9,rfl,hv9,hb9⟩;have HV9:=Za ((hv9.base (B':=w.heap.size) HK7.out.size).more (M:=N) (by have:=HMUL.out;omega));have HC9:=Za (HC7.out.keep hb9);have HK9:=Za (HK7.out.trans (Keep.of hb9));clear hv9 hb9;go_wp2_with fail;go_ret;exact ⟨_,rfl,HV9.out,HC9.out,HK9.out⟩
     by_cases o35:op5=35
     ·subst o35;obtain ⟨us,hus⟩:∃ us,vs++[.slice (some ⟨g5,0,none⟩) (m5+1) c5]=us:=⟨_,rfl⟩;have hul:us.length<=3:=by rw [<- hus,List.length_append,List.length_singleton];omega
      rw [hus] at HO HV7;clear hus;have HMUL:Hid (us.length * K<=3 * K):=Za (Nat.mul_le_mul_right K (by omega));obtain ⟨av,cv,rfl⟩:=HO.out.form;have HG:=Za (Qag 4 _ us (List.replicate us.length K) w7 (fun h=>by unfold QaJ at h;omega) HO.out.sl (by simp) HV7.out.each (by omega) (by rw [QaV];have:=HMUL.out;omega));rw [QaV] at HG;go_wp2_with fail;((with_reducible refine HG.out.mono ?_));rintro e w9 ⟨v9,rfl,hv9,hb9⟩;have HV9:=Za ((hv9.base (B':=w.heap.size) HK7.out.size).more (M:=N) (by have:=HMUL.out;omega));have HC9:=Za (HC7.out.keep hb9);have HK9:=Za (HK7.out.trans (Keep.of hb9));clear hv9 hb9;go_wp2_with fail;go_ret;exact ⟨_,rfl,HV9.out,HC9.out,HK9.out⟩
     have t33:(op5==33)=false:=by rw [beq_eq_false_iff_ne];exact o33
     have t34:(op5==34)=false:=by rw [beq_eq_false_iff_ne];exact o34
     have t35:(op5==35)=false:=by rw [beq_eq_false_iff_ne];exact o35
     go_wp2_with fail;go_roundw
     case rel=>first|exact ⟨vs++[.slice (some ⟨g5,0,none⟩) (m5+1) c5],q-1,by go_num,by rw [List.length_append,List.length_singleton];omega,HO,HV7,HC7,HK7⟩|exact ⟨_,vs++[.slice (some ⟨g5,0,none⟩) (m5+1) c5],q-1,rfl,by go_num,by rw [List.length_append,List.length_singleton];omega,HO,HV7,HC7,HK7⟩
     case measure=>simp [intOf];omega
  ·have hq1:¬ (0:Int)<(q:Int):=by omega
   have HMUL:Hid (vs.length * K<=3 * K):=Za (Nat.mul_le_mul_right K (by omega));obtain ⟨av,cv,rfl⟩:=HR.out.form;have HG:=Za (Qag 4 _ vs (List.replicate vs.length K) w3 (fun h=>by unfold QaJ at h;omega) HR.out.sl (by simp) HV.out.each (by omega) (by rw [QaV];have:=HMUL.out;omega));rw [QaV] at HG;go_wp2_with fail;((with_reducible refine HG.out.mono ?_));rintro e w9 ⟨v9,rfl,hv9,hb9⟩;have HV9:=Za ((hv9.base (B':=w.heap.size) HK.out.size).more (M:=N) (by have:=HMUL.out;omega));have HC9:=Za (HC.out.keep hb9);have HK9:=Za (HK.out.trans (Keep.of hb9));clear hv9 hb9;go_wp2_with fail;go_ret;exact ⟨_,rfl,HV9.out,HC9.out,HK9.out⟩
theorem QtX (C:Nat):Qcr C 3 387:=QeP C 3 193 387 (by omega) (by omega) (by omega) (fun _=>⟨Qlr C,by omega⟩)
theorem QtY (C N:Nat) (h:387<=N):Qgf C 3 N:=Qgh C 3 193 N (by omega) (by omega) (by omega) (Qlr C)
theorem QtZ (C N:Nat) (h:387<=N):Qgg C 3 N:=Qhk C 3 193 N (by omega) (by omega) (by omega) (by omega) (Qlr C)
theorem QwO (C:Nat):Qcj C 3 580 :=
 Qhl C 3 193 129 580 (by omega) (by omega) (by omega) (QcV C 0 (by omega)) (Qdw C 1 (by omega))
  (fun _=>⟨Qlr C,QoI C,QtY C 580 (by omega),QtZ C 580 (by omega),by omega,by omega⟩)
theorem QwP (C:Nat):Qgj C 3 12169:=Qhm C 3 580 387 6052 12169 (by omega) (by omega) (by omega) (Qgi C) (Qb1 C 0 (by omega)) (QwO C) (QtX C) (QtY C 12169 (by omega)) (QtZ C 12169 (by omega)) (fun h=>⟨QiL C,by omega,by omega,by decide⟩)
theorem QvF (C:Nat):Qc7 C 3 54525:=Qsb C 3 12169 54525 (by omega) (by omega) (by omega) (QwP C)
end Go.Proofs.YtoohondkpddmcaaGreatDoor
