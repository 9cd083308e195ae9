/- Mo Mr So -/
import Derived.Test.YtoohondkpddmcaaGreatDoorYzz
import Derived.Test.YtoohondkpddmcaaGreatDoorYav
import Derived.Test.YtoohondkpddmcaaGreatDoorYaw
import Derived.Test.YtoohondkpddmcaaGreatDoorYau
namespace Go.Proofs.YtoohondkpddmcaaGreatDoor
set_option maxHeartbeats 32000000
set_option linter.unusedVariables false
set_option linter.unusedSimpArgs false
section
open Go.RowKit
attribute [local go_sem] ByteArray.mk_append_mk Qah Qai Qag QcV Qc6
def QoG (y:List UInt8) (M:Nat):Nat->World->Value->Prop
 | 1=>fun w v=>(∃ g,v = .slice (some ⟨g,0,none⟩) 1 1)/\Bytes w 0 v [UInt8.ofNat 63]
 | 2=>fun _ v=>v = .string ⟨[UInt8.ofNat 63].toArray⟩
 | 4=>fun _ v=>v = .string ⟨y.toArray⟩
 | 5=>fun _ v=>v = .string ⟨([UInt8.ofNat 63]++y).toArray⟩
 | 9=>fun w v=>(∃ g,v = .slice (some ⟨g,0,none⟩) 1 1)/\Bytes w 0 v [UInt8.ofNat M]
 | 10=>fun _ v=>v = .string ⟨[UInt8.ofNat M].toArray⟩
 | _=>fun _ v=>v = .string ⟨([UInt8.ofNat 63]++y++[UInt8.ofNat M]).toArray⟩
theorem QnN {y:List UInt8} {M:Nat}:∀ (i:Nat) (x z:World) (v:Value),QoG y M i x v->Below x.heap.size x z->QoG y M i z v:=by
 intro i x z v h hb;unfold QoG at h |-;split at h
 ·exact ⟨h.1,h.2.below hb⟩
 ·exact h
 ·exact h
 ·exact h
 ·exact ⟨h.1,h.2.below hb⟩
 ·exact h
 ·exact h
theorem QkN (w:World) {C:Nat} (h:C<256):Bytes (w.alloc (.cells #[.int .u8 (C:Int)] 5 (0,0))) 0 (.slice (some ⟨w.heap.size,0,none⟩) 1 1) [UInt8.ofNat C]:=by
 have hv:byV [UInt8.ofNat C]=[.int .u8 (C:Int)]:=by
  unfold byV;simp only [List.map_cons,List.map_nil,UInt8.toNat_ofNat',Nat.reducePow,Nat.mod_eq_of_lt h]
 unfold Bytes;rw [hv];exact ⟨by simp,.inr ⟨w.heap.size,1,#[.int .u8 (C:Int)],rfl,Nat.zero_le _,heap_alloc_new _ _,Nat.le_refl _,by unfold maxLen;omega,by simp,by simp⟩⟩
set_option maxRecDepth 100000 in
theorem QrJ (v:Value) (p:List Nd) (i:Nat) (w:World) (nn np:Int) (ns:List UInt8) (hn:p[i]?=some ⟨3,nn,ns,np⟩) (hv:NSl w v p) (hpl:p.length<=60000) (h0:QaW ns=true) (hns:ns.length<=1048576) :
  Calls Tryz.prog 43 #[v,.int .i64 i] w fun e w'=>e = .returned (.tuple #[.string ⟨(QbQ ns).toArray⟩,.int .i64 (i+1:Nat)])/\Below w.heap.size w w':=by
 have HV0:=Za hv;obtain ⟨hip,hpe⟩:=List.getElem?_eq_some_iff.1 hn;obtain ⟨a,cap,rfl,hcc⟩:=hv.1;obtain ⟨g,off,rfl,hk⟩:=hcc (by rintro rfl;simp at hip);obtain ⟨d0,d1,d2,d3⟩:=hk i hip;rw [hpe] at d0 d1 d2 d3;simp only at d0 d1 d2 d3;have hi2:(i:Int)<(p.length:Int):=by omega
 obtain ⟨L,hL⟩:∃ L,p.length=L:=⟨_,rfl⟩;have HL:=Za hL;rw [hL] at hi2 HV0 hpl |-;have hi3:(i:Int)<60000:=by omega
 have HB0:Hid (Below w.heap.size w (w.alloc (Qae 3 nn ns np))):=Za (Zb.alloc Zc _);have HE0:=Za (heap_alloc_new w (Qae 3 nn ns np));have HV1:=Za (HV0.out.below HB0.out);have HVW:=HV0;obtain ⟨P,hP⟩:∃ P,w.heap.size=P:=⟨_,rfl⟩;have HPE:=Za hP;clear hcc hk hv hn hpe hip HV0 hL ;go_enter Tryz.func43,Tryz.ntmps43;go_upto_region 3 with fail;generalize w.alloc (Qae 3 nn ns np)=W at HB0 HE0 HV1 |-;(try simp only [hP]);rw [hP] at HB0 HE0;clear hP d0 d1 d2 d3 hi2;obtain ⟨e0,e1,e2,e3⟩:=Qac HE0.out;have HCO:=Za (fun w=>Qd3 3 0 false rfl rfl w);go_wp2_with fail;((with_reducible refine (HCO.out _).mono ?_));rintro e w1 ⟨rfl,rfl⟩;clear HCO;have HP:=Za (Qfd ns W hns);unfold Qck QhW at HP;simp only [h0,if_true,Bool.true_and] at HP;have hpre:=(QeN h0).2;have HRP:Hid (∀ (w:World) (Z:Value),PathV w Z (QaJ ns) (Qbp ns:Int) (QaG ns)->Calls Tryz.prog 92 #[Z] w fun e w'=>e = .returned (.string ⟨(QbQ ns).toArray⟩)/\Below w.heap.size w w'):=Za (fun w Z hZ=>Qh9 ns h0 w _ _ _ rfl rfl rfl Z hZ);generalize QaJ ns=R at HP HRP;generalize (Qbp ns:Int)=U at HP HRP;generalize QaG ns=SG at HP HRP hpre;go_wp2_with fail;((with_reducible refine HP.out.mono ?_));rintro e w1 ⟨v1,rfl,ho1,hb1⟩;have HB1:=Za (Qar HB0.out (by rw [<- HPE.out];exact Nat.le_refl _) hb1);have HE1:=Za (Qad HE0.out hb1);have HS1:=Za (StrsAt.of_own ho1 (by omega));obtain ⟨a1,c1,rfl⟩:=Qg5 ho1;obtain ⟨n1,hn1⟩:∃ n,SG.length=n:=⟨_,rfl⟩;rw [hn1] at HS1 |-;have hal:Below w1.heap.size w1 (w1.alloc (.cells #[.bool R,.int .i64 U,.slice a1 n1 c1] 128)):=Zb.alloc Zc _;have HX:=Za (BoxAt.start (root:=R) (up:=U) HS1.out);have HB3:=Za (Qar HB1.out (by rw [<- HPE.out];exact Nat.le_refl _) hal);have HE3:=Za (Qad HE1.out hal);clear ho1 hb1 hal HB1 HS1 HP hn1 hpre HE1 e0 e1 e2 e3;go_upto_region 12 with fail;generalize w1.alloc (.cells #[.bool R,.int .i64 U,.slice a1 n1 c1] 128)=w2 at HX HB3 HE3 |-;obtain ⟨p0,p1,p2⟩:=HX.out.cells;go_wp2_with fail;((with_reducible refine (HRP.out _ _ HX.out.pathV).mono ?_));rintro e w4 ⟨rfl,hb4⟩;have HB4:=Za (Qar HB3.out (by rw [<- HPE.out];exact Nat.le_refl _) hb4);clear hb4 HRP;go_wp2_with fail;go_ret2;exact ⟨by first|rfl|(simp;done),by rw [HPE.out];exact HB4.out⟩
set_option maxRecDepth 100000 in
theorem Qtk (v:Value) (p:List Nd) (d:Nat) (ih:EnR v p d) (i j:Nat) (w:World) (kd nn:Int) (M:Nat) (ns:List UInt8) (hn:p[i]?=some ⟨kd,nn,ns,(M:Nat)⟩) (hv:NSl w v p) (hpl:p.length<=60000) (hV:NdV ⟨kd,nn,ns,(M:Nat)⟩) (hc:chV p d M (i+1) j) (hlen:(QaB p (d+1) i).1.length<=300000000) (hM:M<=60000) (hns:ns.length<=1048576) (hk:kd≠1/\kd≠2/\kd≠3/\kd≠6/\kd≠7) :
  Calls Tryz.prog 43 #[v,.int .i64 i] w fun e w'=>e = .returned (.tuple #[.string ⟨(QaB p (d+1) i).1.toArray⟩,.int .i64 j])/\Below w.heap.size w w':=by
 have IH:=Za ih;unfold EnR at IH;have hnode:=QkM (d:=d) hn hV hk;simp only [Int.toNat_natCast] at hnode;obtain ⟨T,hT⟩:∃ T,Qb1 (QaB p d) kd M 0 (i+1)=T:=⟨_,rfl⟩;obtain ⟨Y,hY⟩:∃ Y,(QaB p (d+1) i).1=Y:=⟨_,rfl⟩;rw [hT,hY] at hnode;rw [hY] at hlen |-;have HTL:Hid (T.length<=300000000):=Za (by
  have:=congrArg List.length hnode;rw [List.length_append] at this;omega)
 have HT0:Hid (([]:List UInt8)++Qb1 (QaB p d) kd M 0 (i+1)=T):=Za hT;obtain ⟨PRE,hPRE⟩:∃ PRE,Qlv ⟨kd,nn,ns,(M:Nat)⟩=PRE:=⟨_,rfl⟩;rw [hPRE] at hnode;have HNODE:Hid ((kd==4)=false->Y=PRE++T):=Za (fun h=>by rw [hnode,if_neg (beq_eq_false_iff_ne.1 h)]);have HBLK:Hid ((kd==4)=true->Y=Qa3 (T.length:Int)++T):=Za (fun h=>by rw [hnode,if_pos (beq_iff_eq.1 h)]);have hPL:PRE.length<=300000000:=by
  by_cases h4:kd=4
  ·rw [<- hPRE];unfold Qlv;simp [h4]
  ·have h1:=congrArg List.length hnode;rw [if_neg h4,List.length_append] at h1;omega
 have HPRE:=Za hPRE;unfold Qlv at HPRE;simp only [Int.toNat_natCast] at HPRE;have h3way:((kd==31)=true/\(kd==4)=false)\/((kd==31)=false/\(kd==4)=true)\/((kd==31)=false/\(kd==4)=false):=by
  by_cases h31:kd=31
  ·subst h31;exact .inl ⟨rfl,rfl⟩
  by_cases h4:kd=4
  ·subst h4;exact .inr (.inl ⟨rfl,rfl⟩)
  exact .inr (.inr ⟨Zd h31,Zd h4⟩)
 have H31:Hid (kd=31->M=2\/M=3):=Za (fun h=>by have:=hV.cond h;simp only at this;omega);obtain ⟨b31,hb31⟩:∃ b,(kd==31)=b:=⟨_,rfl⟩;have HC0:=Za hc;have HV5:=Za (fun h:kd=5=>(⟨hV.path (.inr h),hV.call h⟩:QaW ns=true/\(M:Int)<=7));have HV33:=Za (fun h:kd=33=>(hV.ret h:(M:Int)<=1));have HK:=Za hk;have hM0:(0:Int)<=(M:Int):=by omega
 have hM1:(M:Int)<=60000:=by omega
 have H3W:=Za h3way;have HNS:=Za hns;clear ih hnode hT hY hlen hPRE hV hc hk h3way hns;have HV0:=Za hv;obtain ⟨hip,hpe⟩:=List.getElem?_eq_some_iff.1 hn;obtain ⟨a,cap,rfl,hcc⟩:=hv.1;obtain ⟨g,off,rfl,hk⟩:=hcc (by rintro rfl;simp at hip);obtain ⟨d0,d1,d2,d3⟩:=hk i hip;rw [hpe] at d0 d1 d2 d3;simp only at d0 d1 d2 d3;have hi2:(i:Int)<(p.length:Int):=by omega
 obtain ⟨L,hL⟩:∃ L,p.length=L:=⟨_,rfl⟩;have HL:=Za hL;rw [hL] at hi2 HV0 hpl IH |-;have hi3:(i:Int)<60000:=by omega
 have HB0:Hid (Below w.heap.size w (w.alloc (Qae kd nn ns (M:Nat)))):=Za (Zb.alloc Zc _);have HE0:=Za (heap_alloc_new w (Qae kd nn ns (M:Nat)));have HV1:=Za (HV0.out.below HB0.out);have HVW:=HV0;obtain ⟨P,hP⟩:∃ P,w.heap.size=P:=⟨_,rfl⟩;have HPE:=Za hP;clear hcc hk hv hn hpe hip HV0 hL ;go_enter Tryz.func43,Tryz.ntmps43;go_upto_region 3 with fail;generalize w.alloc (Qae kd nn ns (M:Nat))=W at HB0 HE0 HV1 |-;(try simp only [hP]);rw [hP] at HB0 HE0;clear hP d0 d1 d2 d3 hi2;obtain ⟨e0,e1,e2,e3⟩:=Qac HE0.out;have HPW:Hid (P<W.heap.size):=Za (lt_of_block HE0.out);obtain ⟨C,hC⟩:∃ C,QbL kd=C:=⟨_,rfl⟩;obtain ⟨CK,hCK⟩:∃ C,Qcv kd=C:=⟨_,rfl⟩;have HCO:=Za (fun w=>Qd3 kd (C:Int) CK (by rw [hC]) hCK w);have HCC:=Za hC;have hC1:(C:Int)<256:=by
  rw [<- hC];unfold QbL
  repeat' split
  all_goals omega
 have hC0:(0:Int)<=(C:Int):=by omega
 clear hC hCK;go_wp2_with fail;((with_reducible refine (HCO.out _).mono ?_));rintro e w1 ⟨rfl,rfl⟩;clear HCO;go_upto_block 0 with fail;go_cut [7] (fun z wx=>z = .string ⟨PRE.toArray⟩/\Hid (Below P w wx/\wx.heap[P]?=some (Qae kd nn ns (M:Nat))))
 case first =>
  have HCF:Hid (Below P w W/\W.heap[P]?=some (Qae kd nn ns (M:Nat))):=Za ⟨HB0.out,HE0.out⟩;clear HT0 HNODE HBLK HTL H3W hb31 H31 IH HC0;by_cases h5:kd=5
  ·subst h5;obtain ⟨h0,h7⟩:=HV5.out rfl;have hw1:IntKind.u8.wrap (M:Int)=(M:Int):=by rw [IntKind.wrap_u8];omega
   have hC63:C=63:=by rw [<- HCC.out];decide
   subst hC63;have hns:=HNS.out;have HP:=Za (Qfd ns W hns);unfold Qck QhW at HP;simp only [h0,if_true,Bool.true_and] at HP;have hpre:=(QeN h0).2;have HRP:Hid (∀ (w:World) (Z:Value),PathV w Z (QaJ ns) (Qbp ns:Int) (QaG ns)->Calls Tryz.prog 92 #[Z] w fun e w'=>e = .returned (.string ⟨(QbQ ns).toArray⟩)/\Below w.heap.size w w'):=Za (fun w Z hZ=>Qh9 ns h0 w _ _ _ rfl rfl rfl Z hZ);generalize QaJ ns=R at HP HRP;generalize (Qbp ns:Int)=U at HP HRP;generalize QaG ns=SG at HP HRP hpre;go_wp2_with fail;((with_reducible refine HP.out.mono ?_));rintro e w1 ⟨v1,rfl,ho1,hb1⟩;have HB1:=Za (Qar HB0.out (by rw [<- HPE.out];exact Nat.le_refl _) hb1);have HE1:=Za (Qad HE0.out hb1);have HS1:=Za (StrsAt.of_own ho1 (by omega));obtain ⟨a1,c1,rfl⟩:=Qg5 ho1;obtain ⟨n1,hn1⟩:∃ n,SG.length=n:=⟨_,rfl⟩;rw [hn1] at HS1 |-;have hal:Below w1.heap.size w1 (w1.alloc (.cells #[.bool R,.int .i64 U,.slice a1 n1 c1] 128)):=Zb.alloc Zc _;have HX:=Za (BoxAt.start (root:=R) (up:=U) HS1.out);have HB3:=Za (Qar HB1.out (by rw [<- HPE.out];exact Nat.le_refl _) hal);have HE3:=Za (Qad HE1.out hal);clear ho1 hb1 hal HB1 HS1 HP hn1 hpre HE1 e0 e1 e2 e3;go_upto_region 18 with fail;generalize w1.alloc (.cells #[.bool R,.int .i64 U,.slice a1 n1 c1] 128)=w2 at HX HB3 HE3 |-;obtain ⟨p0,p1,p2⟩:=HX.out.cells;have k3:∀ x,Grows w2 x->x.cell? ⟨w1.heap.size,0,none⟩=some (.bool R)/\x.cell? ⟨w1.heap.size,1,none⟩=some (.int .i64 U)/\x.cell? ⟨w1.heap.size,2,none⟩=some (.slice a1 n1 c1):=fun x hx=>QaT (Qad HX.out.1 hx);have k7:∀ x,Grows w2 x->x.cell? ⟨P,3,none⟩=some (.int .i64 (M:Nat)):=fun x hx=>(Qac (Qad HE3.out hx)).2.2.2;refine Qak (Grows w2) 12 [.reads [0,3,6,7,8],.bag [1,2,4,5,9,10,11],.act 12] (by kernel_rfl) (by kernel_rfl) (by kernel_rfl) (by kernel_rfl) (by kernel_rfl) (fun _ _ d _ _ h=>by cases d<;>exact h) (Grows.self _) ?_;refine Qaf ?_;simp only [Qab,pQ1,pQ2,pQ3,pQ4,pQ5,pQ6]
   repeat (go_big_quiet_step (first|(intro hb;obtain ⟨q0,q1,q2⟩:=k3 _ hb;rw [q0];simp only [Result.andThen];rw [q1];simp only;rw [q2];exact ⟨rfl,rfl⟩)|(intro hb;rw [k7 _ hb];exact ⟨rfl,rfl⟩)))
   refine wpQuiet_nil ?_;obtain ⟨y,hy⟩:∃ y,QbQ ns=y:=⟨_,rfl⟩;rw [hy] at HRP;have hyl:y.length<=163:=by rw [<- hy];exact QfV h0
   have HPY:Hid (PRE=[UInt8.ofNat 63]++y++[UInt8.ofNat M]):=Za (by rw [<- HPRE.out,if_pos trivial,hy]<;>rfl);have hM256:M<256:=by omega
   have HK:=Za (QnN (y:=y) (M:=M));clear k3 k7 p0 p1 p2 hy;refine Qm8 (BagJ w2 (QoG y M) (fun _=>none)) (fun _=>undef) rfl ?_ ?_ ?_
   ·exact ⟨Grows.self _,(fun _ h=>by cases h),(fun _ _ h=>by cases h),(fun _ _ _ h=>by cases h)⟩
   ·intro jj hj dd u wz hd hdep HJ;have HJ:=Za HJ;simp only [List.mem_cons,List.not_mem_nil,or_false] at hj;rcases hj with rfl|rfl|rfl|rfl|rfl|rfl|rfl
    ·clear hdep;refine Qc8 rfl ?_;simp only [Qab,pQ1,pQ2,pQ3,pQ4,pQ5,pQ6];simp only [Qb9,pQ1,pQ2,pQ3,pQ4,List.head?_cons,Option.bind_some,Act.put,List.setIfInBounds_toArray,List.set_cons_succ,List.set_cons_zero];go_wp2_with fail;have hb:Below wz.heap.size wz (wz.alloc (.cells #[.int .u8 63] 5 (0,0))):=Zb.alloc Zc _;have HJ5:=Za (HJ.out.call HK.out hb 1 rfl (v:=.slice (some ⟨wz.heap.size,0,none⟩) 1 1) ⟨⟨_,rfl⟩,QkN wz (C:=63) (by decide)⟩);exact ⟨fun _=>HJ5.out.grows,_,rfl,HJ5.out⟩
    ·have d1:=hdep 1 (by simp) (by kernel_rfl);clear hdep;obtain ⟨⟨g1,e1⟩,hbs⟩:=HJ.out.value 1 d1 rfl;have HJ5:=Za (HJ.out.call HK.out Zb 2 rfl (v:=.string ⟨[UInt8.ofNat 63].toArray⟩) rfl);refine Qc8 rfl ?_;simp only [Qab,pQ1,pQ2,pQ3,pQ4,pQ5,pQ6];simp only [Qb9,pQ1,pQ2,pQ3,pQ4,List.head?_cons,Option.bind_some,Act.put,List.setIfInBounds_toArray,List.set_cons_succ,List.set_cons_zero];rw [e1] at hbs |-;have hcv:=hbs.conv;clear hbs e1 d1;go_wp2_with fail;exact ⟨fun _=>HJ5.out.grows,_,rfl,HJ5.out⟩
    ·clear hdep;refine Qc8 rfl ?_;simp only [Qab,pQ1,pQ2,pQ3,pQ4,pQ5,pQ6];simp only [Qb9,pQ1,pQ2,pQ3,pQ4,List.head?_cons,Option.bind_some,Act.put,List.setIfInBounds_toArray,List.set_cons_succ,List.set_cons_zero];go_wp2_with fail;have hgz:Below w2.heap.size w2 wz:=HJ.out.grows;((with_reducible refine (HRP.out _ _ (HX.out.below hgz).pathV).mono ?_));rintro e w5 ⟨rfl,hb⟩;have HJ5:=Za (HJ.out.call HK.out hb 4 rfl (v:=.string ⟨y.toArray⟩) rfl);clear hb HJ;go_wp2_with fail;exact ⟨fun _=>HJ5.out.grows,_,rfl,HJ5.out⟩
    ·have d2:=hdep 2 (by simp) (by kernel_rfl);have d4:=hdep 4 (by simp) (by kernel_rfl);clear hdep;have e2:u 2=_:=HJ.out.value 2 d2 rfl;have e4:u 4=_:=HJ.out.value 4 d4 rfl;have HJ5:=Za (HJ.out.call HK.out Zb 5 rfl (v:=.string ⟨([UInt8.ofNat 63]++y).toArray⟩) rfl);refine Qc8 rfl ?_;simp only [Qab,pQ1,pQ2,pQ3,pQ4,pQ5,pQ6];simp only [Qb9,pQ1,pQ2,pQ3,pQ4,List.head?_cons,Option.bind_some,Act.put,List.setIfInBounds_toArray,List.set_cons_succ,List.set_cons_zero];rw [e2,e4];clear e2 e4 d2 d4;go_wp2_with fail;exact ⟨fun _=>HJ5.out.grows,_,rfl,HJ5.out⟩
    ·clear hdep;refine Qc8 rfl ?_;simp only [Qab,pQ1,pQ2,pQ3,pQ4,pQ5,pQ6];simp only [Qb9,pQ1,pQ2,pQ3,pQ4,List.head?_cons,Option.bind_some,Act.put,List.setIfInBounds_toArray,List.set_cons_succ,List.set_cons_zero];go_wp2_with fail;have hb:Below wz.heap.size wz (wz.alloc (.cells #[.int .u8 (M:Int)] 5 (0,0))):=Zb.alloc Zc _;have HJ5:=Za (HJ.out.call HK.out hb 9 rfl (v:=.slice (some ⟨wz.heap.size,0,none⟩) 1 1) ⟨⟨_,rfl⟩,QkN wz hM256⟩);exact ⟨fun _=>HJ5.out.grows,_,rfl,HJ5.out⟩
    ·have d9:=hdep 9 (by simp) (by kernel_rfl);clear hdep;obtain ⟨⟨g1,e1⟩,hbs⟩:=HJ.out.value 9 d9 rfl;have HJ5:=Za (HJ.out.call HK.out Zb 10 rfl (v:=.string ⟨[UInt8.ofNat M].toArray⟩) rfl);refine Qc8 rfl ?_;simp only [Qab,pQ1,pQ2,pQ3,pQ4,pQ5,pQ6];simp only [Qb9,pQ1,pQ2,pQ3,pQ4,List.head?_cons,Option.bind_some,Act.put,List.setIfInBounds_toArray,List.set_cons_succ,List.set_cons_zero];rw [e1] at hbs |-;have hcv:=hbs.conv;clear hbs e1 d9;go_wp2_with fail;exact ⟨fun _=>HJ5.out.grows,_,rfl,HJ5.out⟩
    ·have d5:=hdep 5 (by simp) (by kernel_rfl);have d10:=hdep 10 (by simp) (by kernel_rfl);clear hdep;have e5:u 5=_:=HJ.out.value 5 d5 rfl;have e10:u 10=_:=HJ.out.value 10 d10 rfl;have HJ5:=Za (HJ.out.call HK.out Zb 11 rfl (v:=.string ⟨([UInt8.ofNat 63]++y++[UInt8.ofNat M]).toArray⟩) rfl);refine Qc8 rfl ?_;simp only [Qab,pQ1,pQ2,pQ3,pQ4,pQ5,pQ6];simp only [Qb9,pQ1,pQ2,pQ3,pQ4,List.head?_cons,Option.bind_some,Act.put,List.setIfInBounds_toArray,List.set_cons_succ,List.set_cons_zero];rw [e5,e10];clear e5 e10 d5 d10;go_wp2_with fail;exact ⟨fun _=>HJ5.out.grows,_,by first|rfl|(simp;done),HJ5.out⟩
   ·intro d u wz hall HJ;have e11:u 11=_:=HJ.value 11 (hall 11 (by simp)) rfl;have HG:=Za HJ.grows;clear hall HJ;have HCZ:Hid (Below P w wz/\wz.heap[P]?=some (Qae 5 nn ns (M:Nat))):=Za ⟨Qar HB3.out (by rw [HPE.out];exact Nat.le_refl _) HG.out,Qad HE3.out HG.out⟩;refine Qaa rfl ?_;simp only [Qab,pQ1,pQ2,pQ3,pQ4,pQ5,pQ6];simp only [Qb9,pQ1,pQ2,pQ3,pQ4,List.head?_cons,Option.bind_some,Act.put,List.setIfInBounds_toArray,List.set_cons_succ,List.set_cons_zero];rw [e11];clear e11;go_wp2_with fail;refine ⟨fun h=>absurd h (by decide),Qat ?_⟩;go_wp2_with fail;go_meet;rw [HPY.out];exact ⟨by first|rfl|(simp;done),HCZ⟩
  by_cases h33:kd=33
  ·subst h33;have h1:=HV33.out rfl;have hw1:IntKind.u8.wrap (M:Int)=(M:Int):=by rw [IntKind.wrap_u8];omega
   have HPR:Hid (PRE=[115,UInt8.ofNat M]):=Za HPRE.out.symm;have hC115:C=115:=by rw [<- HCC.out];decide
   subst hC115;have HBA:Hid (∀ o,Below P w (W.alloc o)/\(W.alloc o).heap[P]?=some (Qae 33 nn ns (M:Nat))):=Za (fun o=>⟨Qar HB0.out (by rw [HPE.out];exact Nat.le_refl _) (Zb.alloc Zc o),Qad HE0.out (Zb.alloc Zc o)⟩);go_wp2_with fail;go_meet;rw [HPR.out];exact ⟨by first|rfl|(simp;done),Za (HBA.out _)⟩
  by_cases h4:kd=4
  ·subst h4;have HPR:Hid (PRE=[]):=Za HPRE.out.symm;go_wp2_with fail;go_meet;rw [HPR.out];exact ⟨rfl,HCF⟩
  have b1:(kd==1)=false:=Zd HK.out.1;have b2:(kd==2)=false:=Zd HK.out.2.1;have b3:(kd==3)=false:=Zd HK.out.2.2.1;have b6:(kd==6)=false:=Zd HK.out.2.2.2.1;have b7:(kd==7)=false:=Zd HK.out.2.2.2.2;have b5:(kd==5)=false:=Zd h5;have b33:(kd==33)=false:=Zd h33;have b4:(kd==4)=false:=Zd h4;have HPR:Hid (PRE=[UInt8.ofNat C]):=Za (by rw [<- HPRE.out,if_neg h5,if_neg h33,if_neg h4,HCC.out]);have HBA:Hid (∀ o,Below P w (W.alloc o)/\(W.alloc o).heap[P]?=some (Qae kd nn ns (M:Nat))):=Za (fun o=>⟨Qar HB0.out (by rw [HPE.out];exact Nat.le_refl _) (Zb.alloc Zc o),Qad HE0.out (Zb.alloc Zc o)⟩);clear h5 h33 h4 HK HV5 HV33;go_wp2_with fail;go_meet;rw [HPR.out];exact ⟨by first|rfl|(simp;done),Za (HBA.out _)⟩
 case rest =>
  obtain ⟨rfl,HCUT⟩:=hcut;obtain ⟨w2,rfl⟩:∃ y:World,y=wc:=⟨_,rfl⟩;clear HV5 HV33 HK e0 e1 e2 e3 HPRE;go_wp2_with fail;go_loopw [1,14,15] (fun y z x wr=>∃ (q ii:Nat) (st:List UInt8),y = .int .i64 ii/\z = .string ⟨st.toArray⟩/\x = .int .i64 q/\q<=M/\ii<=60000/\st.length<=300000000/\Hid (chV p d (M-q) ii j)/\Hid (st++Qb1 (QaB p d) kd M q ii=T)/\Hid (Below P w wr/\wr.heap[P]?=some (Qae kd nn ns (M:Nat)))) (fun _ _ x _=>M-(intOf x).toNat)
  case atStart=>exact ⟨0,i+1,[],by go_num,rfl,rfl,by omega,by omega,by simp,HC0,HT0,HCUT⟩
  case round =>
   obtain ⟨q,ii,st,rfl,rfl,rfl,hq,hii,hst,HC,HT,HBW⟩:=hrel;obtain ⟨w3,rfl⟩:∃ y:World,y=wr:=⟨_,rfl⟩;clear HCUT HC0 HT0;obtain ⟨e0,e1,e2,e3⟩:=Qac HBW.out.2;by_cases hlt:q<M
   ·have hlt':(q:Int)<(M:Int):=by omega
    obtain ⟨m',hMq⟩:∃ m',M-q=m'+1:=⟨M-q-1,by omega⟩;have hx2:=HC.out;rw [hMq] at hx2;obtain ⟨b,k,j1,hv1,hx2⟩:=hx2;have HT1:Hid ((st++QpT kd q++(QaB p d ii).1)++Qb1 (QaB p d) kd M (q+1) j1=T):=Za (by
     rw [<- HT.out,Qmk hlt H31.out (Qds p d b k ii j1 hv1),List.append_assoc,List.append_assoc])
    have HC1:Hid (chV p d (M-(q+1)) j1 j):=Za (by rw [show M-(q+1)=m' by omega];exact hx2);have hj1:j1<=60000:=by
     have:=Qa5 p d b k ii j1 hv1;have:=HL.out;omega
    have HCL:=Za (IH.out b k ii j1 w3 hv1 (HVW.out.below (by rw [HPE.out];exact HBW.out.1)));obtain ⟨y,hy⟩:∃ y,(QaB p d ii).1=y:=⟨_,rfl⟩;rw [hy] at HCL HT1;have hyl:y.length<=300000000:=by
     have h1:=congrArg List.length HT1.out;have h2:=HTL.out;simp only [List.length_append] at h1;omega
    clear hv1 hx2 HC HT hy hMq;by_cases h2:b31=true/\q=2
    ·have hq2:((q:Int)==2)=true:=by rw [beq_iff_eq];omega
     have hb3:(kd==31)=true:=by rw [hb31];exact h2.1
     have hstn:(st++[1]++y).length<=300000000:=by
      have h1:=congrArg List.length HT1.out;have h3:=HTL.out;unfold QpT at h1;rw [if_pos ⟨beq_iff_eq.1 hb3,h2.2⟩] at h1;simp only [List.length_append] at h1;simp only [List.length_append];omega
     have HT2:Hid ((st++[1]++y)++Qb1 (QaB p d) kd M (q+1) j1=T):=Za (by rw [<- HT1.out];unfold QpT;rw [if_pos ⟨beq_iff_eq.1 hb3,h2.2⟩]);clear HT1 h2 hb31;go_wp2_with fail;((with_reducible refine HCL.out.mono ?_));rintro e w4 ⟨rfl,hbw4⟩;have HBW4:Hid (Below P w w4/\w4.heap[P]?=some (Qae kd nn ns (M:Nat))):=Za ⟨Qar HBW.out.1 (by rw [HPE.out];exact Nat.le_refl _) hbw4,Qad HBW.out.2 hbw4⟩;clear hbw4 HCL HBW e0 e1 e2 e3;go_wp2_with fail;go_roundw
     case rel=>first|exact ⟨q+1,j1,st++[1]++y,by go_num,rfl,by go_num,by omega,hj1,hstn,HC1,HT2,HBW4⟩|exact ⟨q+1,j1,st++[1]++y,by go_num,by simp,by go_num,by omega,hj1,hstn,HC1,HT2,HBW4⟩
     case measure=>simp [intOf];omega
    ·have hg:(kd==31)=false\/((kd==31)=true/\((q:Int)==2)=false):=by
      rw [hb31];cases b31 with
      | false=>exact .inl rfl
      | true=>exact .inr ⟨rfl,by rw [beq_eq_false_iff_ne];intro h;exact h2 ⟨rfl,by omega⟩⟩
     have hstn:(st++y).length<=300000000:=by
      have h1:=congrArg List.length HT1.out;have h3:=HTL.out;simp only [List.length_append] at h1;simp only [List.length_append];omega
     have HT2:Hid ((st++y)++Qb1 (QaB p d) kd M (q+1) j1=T):=Za (by
      rw [<- HT1.out];unfold QpT;rw [if_neg,List.append_nil];rintro ⟨x1,x2⟩;refine h2 ⟨?_,x2⟩;rw [<- hb31,x1]<;>rfl)
     clear HT1 h2 hb31;rcases hg with hb3|⟨hb3,hq2⟩
     all_goals
      go_wp2_with fail;((with_reducible refine HCL.out.mono ?_));rintro e w4 ⟨rfl,hbw4⟩;have HBW4:Hid (Below P w w4/\w4.heap[P]?=some (Qae kd nn ns (M:Nat))):=Za ⟨Qar HBW.out.1 (by rw [HPE.out];exact Nat.le_refl _) hbw4,Qad HBW.out.2 hbw4⟩;clear hbw4 HCL HBW e0 e1 e2 e3;go_wp2_with fail;go_roundw
      case rel=>first|exact ⟨q+1,j1,st++y,by go_num,rfl,by go_num,by omega,hj1,hstn,HC1,HT2,HBW4⟩|exact ⟨q+1,j1,st++y,by go_num,by simp,by go_num,by omega,hj1,hstn,HC1,HT2,HBW4⟩
      case measure=>simp [intOf];omega
   ·have hlt':¬ (q:Int)<(M:Int):=by omega
    have hqM:q=M:=by omega
    have HFIN:Hid (st++QnK kd M=T/\ii=j):=Za (by
     have h1:=HT.out;have h2:=HC.out;rw [hqM,Nat.sub_self] at h2;rw [hqM,QnL H31.out] at h1;exact ⟨h1,h2⟩)
    clear HC HT hq hqM;obtain ⟨h8,rfl⟩:=HFIN.out;have HTT:=Za h8;clear HFIN h8 hb31;rcases H3W.out with ⟨hb3,hb4⟩|⟨hb3,hb4⟩|⟨hb3,hb4⟩
    · -- an If
     have HRES:=Za (HNODE.out hb4);by_cases hM2:M=2
     ·have hm:((M:Int)==2)=true:=by rw [beq_iff_eq];omega
      have HST:Hid (st++[0]=T):=Za (by rw [<- HTT.out];unfold QnK;rw [if_pos ⟨beq_iff_eq.1 hb3,hM2⟩]);have hs0:(st++[0]).length<=300000000:=by rw [HST.out];exact HTL.out
      have HM2:=Za hM2;clear hM2;go_wp2_with fail;go_ret2;rw [HRES.out,<- HST.out,HPE.out];exact ⟨by first|rfl|(simp;done),HBW.out.1⟩
     ·have hm:((M:Int)==2)=false:=by rw [beq_eq_false_iff_ne];omega
      have HST:Hid (st=T):=Za (by rw [<- HTT.out];unfold QnK;rw [if_neg (fun x=>hM2 x.2),List.append_nil]);go_wp2_with fail;go_ret2;rw [HRES.out,<- HST.out,HPE.out];exact ⟨by first|rfl|(simp;done),HBW.out.1⟩
    · -- a block
     have HRES:=Za (HBLK.out hb4);have HST:Hid (st=T):=Za (by rw [<- HTT.out];unfold QnK;rw [if_neg (fun x=>by rw [x.1] at hb3;exact absurd hb3 (by decide)),List.append_nil]);have hsl:st.length<=300000000:=by rw [HST.out];exact HTL.out
     have HLEN:=Za (fun w=>QbF (st.length:Int) w (by omega) (by omega));obtain ⟨ls,hls⟩:∃ l,Qa3 (st.length:Int)=l:=⟨_,rfl⟩;have HLS:=Za hls;have hll:ls.length<=10:=by rw [<- hls];have:=Qgo (st.length:Int);omega
     rw [hls] at HLEN;clear hls;go_wp2_with fail;((with_reducible refine (HLEN.out _).mono ?_));rintro e w5 ⟨rfl,hb5⟩;have HB5:=Za (Qar HBW.out.1 (by rw [HPE.out];exact Nat.le_refl _) hb5);clear hb5 HLEN;go_wp2_with fail;go_ret2;rw [HRES.out,<- HST.out,HPE.out,HLS.out];exact ⟨by first|rfl|(simp;done),HB5.out⟩
    ·have HRES:=Za (HNODE.out hb4);have HST:Hid (st=T):=Za (by rw [<- HTT.out];unfold QnK;rw [if_neg (fun x=>by rw [x.1] at hb3;exact absurd hb3 (by decide)),List.append_nil]);go_wp2_with fail;go_ret2;rw [HRES.out,<- HST.out,HPE.out];exact ⟨by first|rfl|(simp;done),HBW.out.1⟩
end
section
open Go.RowKit
theorem QpV (p:List Nd) (d:Nat) {m i j:Nat} (h:chV p d m i j):(Qa4 (QaB p d) m i).2=j:=Qiz (Qds p d) m i j h
def Qml (p:List Nd):Prop:=∀ n∈p,n.str.length<=1048576/\0<=n.num
theorem Qmm {p:List Nd} {d i:Nat} {n:Nd} (hn:p[i]?=some n) :
  (n.kind=1->(QaB p (d+1) i).1=QaX n.num.toNat)/\(n.kind=2->(QaB p (d+1) i).1=Qdy n.str)/\(n.kind=3->(QaB p (d+1) i).1=QbQ n.str) /\
   (n.kind=6->(QaB p (d+1) i).1=[UInt8.ofNat (96+n.num.toNat)])/\(n.kind=7->(QaB p (d+1) i).1=[UInt8.ofNat (104+n.num.toNat)]):=by
 refine ⟨fun h=>?_,fun h=>?_,fun h=>?_,fun h=>?_,fun h=>?_⟩<;>rw [QaB,hn]<;>simp [h]<;>rfl
theorem QnO (v:Value) (p:List Nd) (m:Int) (d:Nat) (hpl:p.length<=1000000) (hP:Qml p) (ih:EnK v p m d):EnT v p m (d+1):=by
 intro b k i j cv l B w hv hbt hen hlen;obtain ⟨n,hn,hV,hc⟩:=Qiy hv;have hg:=Qa5 p (d+1) b k i j hv;obtain ⟨hs1,hs2⟩:=hP n (List.mem_of_getElem? hn);obtain ⟨kd,nn,ns,np⟩:=n;have hpos:=hV.pos;simp only at hpos hs1 hs2;obtain ⟨M,rfl⟩:∃ M:Nat,np=M:=⟨np.toNat,by omega⟩;simp only [Int.toNat_natCast] at hc;have hle:=Qgq M (i+1) j hc (by omega);have hM:M<=1000000:=by omega
 have hl0:l.length<=100000000:=by omega
 obtain ⟨x1,x2,x3,x6,x7⟩:=Qmm (d:=d) hn;simp only at x1 x2 x3 x6 x7;have hleaf:kd=1\/kd=2\/kd=3\/kd=6\/kd=7->i+1=j:=fun h=>by
  have h0:=hV.leaf h;simp only at h0;obtain rfl:M=0:=by omega
  exact hc
 by_cases h1:kd=1
 ·subst h1;rw [x1 rfl,<- hleaf (.inl rfl)];exact Qte v p m i w nn _ ns cv l B hpl hbt hen hl0 hn hs2 (by have:=Qgk nn.toNat;omega)
 by_cases h2:kd=2
 ·subst h2;rw [x2 rfl,<- hleaf (.inr (.inl rfl))];exact Qtf v p m i w nn _ ns cv l B hpl hbt hen hl0 hn (hV.str rfl)
 by_cases h3:kd=3
 ·subst h3;rw [x3 rfl,<- hleaf (.inr (.inr (.inl rfl)))];exact QrH v p m i w nn _ ns cv l B hpl hbt hen hl0 hn (hV.path (.inl rfl)) (by omega)
 by_cases h6:kd=6
 ·subst h6;rw [x6 rfl,<- hleaf (.inr (.inr (.inr (.inl rfl))))];exact Qtg v p m i w nn _ ns cv l B hpl hbt hen hl0 hn hs2 (hV.loc rfl)
 by_cases h7:kd=7
 ·subst h7;rw [x7 rfl,<- hleaf (.inr (.inr (.inr (.inr rfl))))];exact Qth v p m i w nn _ ns cv l B hpl hbt hen hl0 hn hs2 (hV.arg rfl)
 have hnode:=QkM (d:=d) hn hV ⟨h1,h2,h3,h6,h7⟩;simp only [Int.toNat_natCast] at hnode;have hst:kd≠31->Qb1 (QaB p d) kd M 0 (i+1)=(Qa4 (QaB p d) M (i+1)).1:=fun h=>by
  unfold Qb1;rw [if_neg (fun x=>h x.1),Nat.sub_zero]
 by_cases h4:kd=4
 ·subst h4;have hX:(QaB p (d+1) i).1=Qa3 ((Qa4 (QaB p d) M (i+1)).1.length:Nat)++(Qa4 (QaB p d) M (i+1)).1:=by
   rw [hnode,if_pos rfl,hst (by decide)]
  rw [hX,List.length_append] at hlen;rw [hX,<- List.append_assoc];exact QpU v p m d ih i j w nn M ns cv l B hpl hbt hen hM hc hn (by omega)
 by_cases h5:kd=5
 ·subst h5;have hX:(QaB p (d+1) i).1=63::(QbQ ns++[UInt8.ofNat M])++(Qa4 (QaB p d) M (i+1)).1:=by
   rw [hnode,if_neg (by decide),hst (by decide)];unfold Qlv;simp
  rw [hX] at hlen;simp only [List.length_append,List.length_cons,List.length_nil] at hlen;have h:=QrI v p m d ih i j w nn M ns cv l B hpl hbt hen hM hc hn (by have:=hV.call rfl;simp only at this;omega) (hV.path (.inr rfl)) (by omega) (by omega);have e:l++(QaB p (d+1) i).1=(((l++[UInt8.ofNat 63])++QbQ ns)++[UInt8.ofNat M])++(Qa4 (QaB p d) M (i+1)).1:=by
   rw [hX];simp
  rw [e];exact h
 by_cases h33:kd=33
 ·subst h33;have hX:(QaB p (d+1) i).1=[115,UInt8.ofNat M]++(Qa4 (QaB p d) M (i+1)).1:=by
   rw [hnode,if_neg (by decide),hst (by decide)];unfold Qlv;simp
  rw [hX] at hlen;simp only [List.length_append,List.length_cons,List.length_nil] at hlen;have h:=Qtj v p m d ih i j w nn M ns cv l B hpl hbt hen hM hc hn (by have:=hV.ret rfl;simp only at this;omega) (by omega);have e:l++(QaB p (d+1) i).1=(l++[UInt8.ofNat 115,UInt8.ofNat M])++(Qa4 (QaB p d) M (i+1)).1:=by
   rw [hX];simp
  rw [e];exact h
 by_cases h31:kd=31
 ·subst h31;have hcond:=hV.cond rfl;simp only at hcond;obtain ⟨D,hD⟩:∃ D,M=2+D:=⟨M-2,by omega⟩;have hD1:D<=1:=by omega
  obtain ⟨q,hc1,hc2⟩:=QfU 2 D (i+1) j (by rw [<- hD];exact hc);have hX:(QaB p (d+1) i).1=[UInt8.ofNat 113]++((Qa4 (QaB p d) 2 (i+1)).1++UInt8.ofNat D::(Qa4 (QaB p d) D q).1):=by
   have hs31:Qb1 (QaB p d) 31 M 0 (i+1)=(Qa4 (QaB p d) 2 (i+1)).1++UInt8.ofNat D::(Qa4 (QaB p d) D q).1:=by
    unfold Qb1;rw [if_pos ⟨rfl,by omega⟩,Nat.sub_zero,QpV p d hc1,show M-2=D by omega]
   rw [hnode,if_neg (by decide),hs31];unfold Qlv;rfl
  rw [hX] at hlen;simp only [List.length_append,List.length_cons,List.length_nil] at hlen;have h:=QuM v p m d ih i j w nn M ns cv l B hpl hbt hen hM D q hD hD1 hc1 hc2 hn (by omega);have e:l++(QaB p (d+1) i).1=(((l++[UInt8.ofNat 113])++(Qa4 (QaB p d) 2 (i+1)).1)++[UInt8.ofNat D])++(Qa4 (QaB p d) D q).1:=by
   rw [hX];simp
  rw [e];exact h
 ·have hX:(QaB p (d+1) i).1=[UInt8.ofNat (QbL kd)]++(Qa4 (QaB p d) M (i+1)).1:=by
   rw [hnode,if_neg h4,hst h31];unfold Qlv;simp only [h5,h33,h4,if_false]
  rw [hX] at hlen;simp only [List.length_append,List.length_cons,List.length_nil] at hlen;have h:=Qti v p m d ih i j w nn M ns cv l B hpl hbt hen hM hc kd hn ⟨h1,h2,h3,h4,h6,h7,h5,h33,h31⟩ (by omega);rw [hX,<- List.append_assoc];exact h
theorem QoH (v:Value) (p:List Nd) (m:Int) (hpl:p.length<=1000000) (hP:Qml p):∀ d,EnT v p m d
 | 0=>fun b k i j cv l B w hv=>by rw [Qaz] at hv;cases hv
 | d+1=>QnO v p m d hpl hP (Qke v p m d (QoH v p m hpl hP d))
theorem QoI (v:Value) (p:List Nd) (hpl:p.length<=60000) (hP:Qml p):∀ d,EnR v p d
 | 0=>fun b k i j w hv=>by rw [Qaz] at hv;cases hv
 | d+1=>fun b k i j w hv hsl=>by
   obtain ⟨n,hn,hV,hc⟩:=Qiy hv;have hg:=Qa5 p (d+1) b k i j hv;have hlen:=QoB hv;obtain ⟨hs1,hs2⟩:=hP n (List.mem_of_getElem? hn);obtain ⟨kd,nn,ns,np⟩:=n;have hpos:=hV.pos;simp only at hpos hs1 hs2;obtain ⟨M,rfl⟩:∃ M:Nat,np=M:=⟨np.toNat,by omega⟩;simp only [Int.toNat_natCast] at hc;have hle:=Qgq M (i+1) j hc (by omega);have hM:M<=60000:=by omega
   obtain ⟨x1,x2,x3,x6,x7⟩:=Qmm (d:=d) hn;simp only at x1 x2 x3 x6 x7;have hleaf:kd=1\/kd=2\/kd=3\/kd=6\/kd=7->i+1=j:=fun h=>by
    have h0:=hV.leaf h;simp only at h0;obtain rfl:M=0:=by omega
    exact hc
   by_cases h1:kd=1
   ·subst h1;rw [x1 rfl,<- hleaf (.inl rfl)];exact Qta v p i w nn _ ns hn hsl (by omega) hs2
   by_cases h2:kd=2
   ·subst h2;rw [x2 rfl,<- hleaf (.inr (.inl rfl))];exact Qtb v p i w nn _ ns hn hsl (by omega) (hV.str rfl)
   by_cases h3:kd=3
   ·subst h3;rw [x3 rfl,<- hleaf (.inr (.inr (.inl rfl)))];exact QrJ v p i w nn _ ns hn hsl hpl (hV.path (.inl rfl)) hs1
   by_cases h6:kd=6
   ·subst h6;rw [x6 rfl,<- hleaf (.inr (.inr (.inr (.inl rfl))))];exact Qtc v p i w nn _ ns hn hsl (by omega) hs2 (hV.loc rfl)
   by_cases h7:kd=7
   ·subst h7;rw [x7 rfl,<- hleaf (.inr (.inr (.inr (.inr rfl))))];exact Qtd v p i w nn _ ns hn hsl (by omega) hs2 (hV.arg rfl)
   exact Qtk v p d (QoI v p hpl hP d) i j w kd nn M ns hn hsl hpl hV hc (by
    have:257 * (j-i)<=257 * 60000:=Nat.mul_le_mul_left _ (by omega);omega) hM hs1 ⟨h1,h2,h3,h6,h7⟩
end
section
open Go.RowKit
attribute [local go_sem] ByteArray.mk_append_mk Qah Qai Qag
theorem QkO (m:Int) (p:List Nd) (v:Value) (w:World) (hv:NSl w v p) (hm:SynG m w) (hl:p.length<=9223372036854775000) :
  Calls Tryz.prog 41 #[v] w fun e w'=>e = .returned (.bool (Qbk p))/\Below w.heap.size w w':=by
 obtain ⟨X,hX⟩:∃ X,Hid (Qbk p=X):=⟨_,Za rfl⟩;have HV0:=Za hv;have HG0:=Za hm;have HB0:=Za (Below.refl w.heap.size w);obtain ⟨a,cap,rfl,hc⟩:=hv.1;clear hc hv hm;by_cases h2:p.length<=2048
 ·have h2':¬ (2048:Int)<(p.length:Int):=by omega
  have HX0:Hid (Qdq p p.length 0=X):=Za (by rw [<- hX.out];unfold Qbk;rw [decide_eq_true h2,Bool.true_and]);have HEL:=Za (Qmj m p (by omega) 32 1 (by omega) (by omega)).1;obtain ⟨L,hL⟩:∃ L,p.length=L:=⟨_,rfl⟩;have HL:=Za hL;rw [hL] at h2 h2' hl HV0 HX0 |-;clear hL;go_enter Tryz.func41,Tryz.ntmps41;go_wp2_with fail;go_loopw [3] (fun x wr=>∃ (f q:Nat),x = .int .i64 q/\q<=L/\L<=f+q/\Hid (Qdq p f q=X)/\Hid (NSl wr (.slice a L cap) p)/\Hid (SynG m wr)/\Hid (Below w.heap.size w wr)) (fun x _=>L-(intOf x).toNat)
  case atStart=>exact ⟨L,0,rfl,by omega,by omega,HX0,HV0,HG0,HB0⟩
  case round =>
   clear HX0 HV0 HG0 HB0;obtain ⟨f,q,rfl,hq,hf,HX,HV,HG,HB⟩:=hrel;obtain ⟨w4,rfl⟩:∃ y:World,y=wr:=⟨_,rfl⟩;by_cases hlt:q<L
   ·have hlt':(q:Int)<(L:Int):=by omega
    obtain ⟨f,rfl⟩:∃ g,f=g+1:=⟨f-1,by omega⟩;have HXK:Hid (X=match Qaz p 32 false 68 q with|none=>false|some j=>Qdq p f j):=Za (by rw [<- HX.out,Qdq,if_neg (by rw [HL.out];omega)]<;>rfl);have HC:Hid (Calls Tryz.prog 81 #[.slice a L cap,.int .i64 q,.int .u8 68,.int .i64 1] w4 (Qep w4 (Qaz p 32 false 68 q))):=Za (HEL.out 68 q _ w4 HV.out HG.out (by rw [HL.out];exact hq));unfold Qep at HC;cases hx:Qaz p 32 false 68 q with
    | none =>
      rw [hx] at HC HXK;have HX2:Hid (X=false):=HXK;clear hx HX HXK;simp only [Option.isSome_none,Option.getD_none] at HC;go_wp2_with fail;((with_reducible refine HC.out.mono ?_));rintro e w5 ⟨rfl,hb5⟩;have HB5:Hid (Below w.heap.size w w5):=Za (Qar HB.out Zc hb5);clear hb5;go_wp2_with fail;go_ret;rw [hX.out,HX2.out];exact ⟨rfl,HB5.out⟩
    | some z =>
      rw [hx] at HC HXK;have hz:=Qa5 p 32 false 68 q z hx;rw [HL.out] at hz;obtain ⟨hz1,hz2⟩:=hz;have HX5:Hid (Qdq p f z=X):=Za HXK.out.symm;clear hx HX HXK;simp only [Option.isSome_some,Option.getD_some] at HC;go_wp2_with fail;((with_reducible refine HC.out.mono ?_));rintro e w5 ⟨rfl,hb5⟩;have HB5:Hid (Below w.heap.size w w5):=Za (Qar HB.out Zc hb5);have HV5:=Za (HV.out.below hb5);have HG5:=Za (HG.out.below hb5 HG.out.low);clear hb5 HC;go_wp2_with fail;go_roundw
      case rel=>exact ⟨f,z,rfl,hz2,by omega,HX5,HV5,HG5,HB5⟩
      case measure=>simp [intOf];omega
   ·have hlt':¬ (q:Int)<(L:Int):=by omega
    have HX5:Hid (X=true):=Za (by
     rw [<- HX.out];cases f with
     | zero=>rw [Qdq];exact decide_eq_true (by rw [HL.out];omega)
     | succ f=>rw [Qdq,if_pos (by rw [HL.out];omega)])
    clear HX;go_wp2_with fail;go_ret;rw [hX.out,HX5.out];exact ⟨rfl,HB.out⟩
 ·have h2':(2048:Int)<(p.length:Int):=by omega
  have HX0:Hid (X=false):=Za (by rw [<- hX.out];unfold Qbk;rw [decide_eq_false h2,Bool.false_and]);go_enter Tryz.func41,Tryz.ntmps41;go_wp2_with fail;go_ret;rw [hX.out,HX0.out];exact ⟨rfl,HB0.out⟩
theorem QpW (s v x r:List UInt8) (h:Qbm s v=some (x,r)):x.length<=255:=by
 fun_induction Qbm s v
 all_goals first
  | (cases h;done)
  | (rename_i ih;exact ih h)
  | (injection h with h;injection h with h1 h2;rw [<- h1];omega)
theorem QpX {d t:List UInt8} {k v n:Nat} (h:Qcr d=some (k,v,t,n)):(t.length<=d.length\/t.length<=255)/\(k=2->t≠[]):=by
 cases d with
 | nil=>cases h
 | cons c r =>
   rw [Qcr] at h;split at h
   ·obtain ⟨z,hz,e⟩:=Option.map_eq_some_iff.1 h;injection e with e1 e2;injection e2 with e2 e3;injection e3 with e3 e4;subst e1 e3;exact ⟨.inl (by simp),fun h=>by cases h⟩
   rename_i hd
   split at h
   ·rename_i hlt
    split at h
    ·split at h
     ·injection h with e;injection e with e1 e2;injection e2 with e2 e3;injection e3 with e3 e4;subst e1 e3;refine ⟨.inl (by rw [List.length_take];omega),fun _ hn=>?_⟩;have:1<=Qbd (c::r):=QdP (by unfold idB;rw [hlt]<;>rfl);rw [List.take_eq_nil_iff] at hn;rcases hn with hn|hn
      ·omega
      ·cases hn
     ·cases h
    ·obtain ⟨z,hz,e⟩:=Option.map_eq_some_iff.1 h;injection e with e1 e2;injection e2 with e2 e3;injection e3 with e3 e4;subst e1 e3;exact ⟨.inl (by rw [List.length_take];omega),fun h=>by cases h⟩
   split at h
   ·obtain ⟨z,hz,e⟩:=Option.map_eq_some_iff.1 h;injection e with e1 e2;injection e2 with e2 e3;injection e3 with e3 e4;subst e1 e3;exact ⟨.inl (by rw [List.length_take];omega),fun h=>by cases h⟩
   split at h
   ·obtain ⟨⟨x,y⟩,hz,e⟩:=Option.map_eq_some_iff.1 h;injection e with e1 e2;injection e2 with e2 e3;injection e3 with e3 e4;subst e1 e3;exact ⟨.inr (QpW _ _ _ _ hz),fun h=>by cases h⟩
   split at h
   ·cases h
   ·injection h with e;injection e with e1 e2;injection e2 with e2 e3;injection e3 with e3 e4;subst e3;refine ⟨.inl (by simp),fun h=>?_⟩;rw [<- e1] at h;have h9:Qdv c≠2:=by
     unfold Qdv
     repeat' split
     all_goals decide
    exact absurd h h9
end
end Go.Proofs.YtoohondkpddmcaaGreatDoor
