/- Mo Mr So Ra Rb -/
import Derived.Test.YtoohondkpddmcaaGreatDoorUzz
import Derived.Test.YtoohondkpddmcaaGreatDoorUar
import Derived.Test.YtoohondkpddmcaaGreatDoorUas
import Derived.Test.YtoohondkpddmcaaGreatDoorUaq
import Derived.Test.YtoohondkpddmcaaGreatDoorUap
namespace Go.Proofs.YtoohondkpddmcaaGreatDoor
set_option maxHeartbeats 32000000
set_option linter.unusedVariables false
set_option linter.unusedSimpArgs false
section
open Go.RowKit
attribute [local go_sem] ByteArray.mk_append_mk Qac Qad Qae Qc2 Qdd
def Qqp (y:List UInt8) (M:Nat):Nat->World->Value->Prop
 | 1=>fun w v=>(∃ g,v = .slice (some ⟨g,0,none⟩) 1 1)/\Bytes w 0 v [UInt8.ofNat 63]
 | 2=>fun _ v=>v = .string ⟨[UInt8.ofNat 63].toArray⟩
 | 4=>fun _ v=>v = .string ⟨y.toArray⟩
 | 5=>fun _ v=>v = .string ⟨([UInt8.ofNat 63]++y).toArray⟩
 | 9=>fun w v=>(∃ g,v = .slice (some ⟨g,0,none⟩) 1 1)/\Bytes w 0 v [UInt8.ofNat M]
 | 10=>fun _ v=>v = .string ⟨[UInt8.ofNat M].toArray⟩
 | _=>fun _ v=>v = .string ⟨([UInt8.ofNat 63]++y++[UInt8.ofNat M]).toArray⟩
theorem QpP {y:List UInt8} {M:Nat}:∀ (i:Nat) (x z:World) (v:Value),Qqp y M i x v->Below x.heap.size x z->Qqp y M i z v:=by
 intro i x z v h hb;unfold Qqp at h |-;split at h
 ·exact ⟨h.1,h.2.below hb⟩
 ·exact h
 ·exact h
 ·exact h
 ·exact ⟨h.1,h.2.below hb⟩
 ·exact h
 ·exact h
theorem Qi3 (w:World) {C:Nat} (h:C<256):Bytes (w.alloc (.cells #[.int .u8 (C:Int)] 5 (0,0))) 0 (.slice (some ⟨w.heap.size,0,none⟩) 1 1) [UInt8.ofNat C]:=by
 have hv:byV [UInt8.ofNat C]=[.int .u8 (C:Int)]:=by
  unfold byV;simp only [List.map_cons,List.map_nil,UInt8.toNat_ofNat',Nat.reducePow,Nat.mod_eq_of_lt h]
 unfold Bytes;rw [hv];exact ⟨by simp,.inr ⟨w.heap.size,1,#[.int .u8 (C:Int)],rfl,Nat.zero_le _,heap_alloc_new _ _,Nat.le_refl _,by unfold maxLen;omega,by simp,by simp⟩⟩
set_option maxRecDepth 100000 in
theorem Qtm (v:Value) (p:List Nd) (i:Nat) (w:World) (nn np:Int) (ns:List UInt8) (hn:p[i]?=some ⟨3,nn,ns,np⟩) (hv:NSl w v p) (hpl:p.length<=60000) (h0:QaY ns=true) (hns:ns.length<=1048576) :
  Calls Tryz.prog 43 #[v,.int .i64 i] w fun e w'=>e = .returned (.tuple #[.string ⟨(Qbu ns).toArray⟩,.int .i64 (i+1:Nat)])/\Below w.heap.size w w':=by
 have HV0:=Za hv;obtain ⟨hip,hpe⟩:=List.getElem?_eq_some_iff.1 hn;obtain ⟨a,cap,rfl,hcc⟩:=hv.1;obtain ⟨g,off,rfl,hk⟩:=hcc (by rintro rfl;simp at hip);obtain ⟨d0,d1,d2,d3⟩:=hk i hip;rw [hpe] at d0 d1 d2 d3;simp only at d0 d1 d2 d3;have hi2:(i:Int)<(p.length:Int):=by omega
 obtain ⟨L,hL⟩:∃ L,p.length=L:=⟨_,rfl⟩;have HL:=Za hL;rw [hL] at hi2 HV0 hpl |-;have hi3:(i:Int)<60000:=by omega
 have HB0:Hid (Below w.heap.size w (w.alloc (Qaj 3 nn ns np))):=Za (Zb.alloc Zc _);have HE0:=Za (heap_alloc_new w (Qaj 3 nn ns np));have HV1:=Za (HV0.out.below HB0.out);have HVW:=HV0;obtain ⟨P,hP⟩:∃ P,w.heap.size=P:=⟨_,rfl⟩;have HPE:=Za hP;clear hcc hk hv hn hpe hip HV0 hL ;go_enter Tryz.func43,Tryz.ntmps43;go_upto_region 3 with fail;generalize w.alloc (Qaj 3 nn ns np)=W at HB0 HE0 HV1 |-;(try simp only [hP]);rw [hP] at HB0 HE0;clear hP d0 d1 d2 d3 hi2;obtain ⟨e0,e1,e2,e3⟩:=Qaa HE0.out;have HCO:=Za (fun w=>Qfr 3 0 false rfl rfl w);go_wp2_with fail;((with_reducible refine (HCO.out _).mono ?_));rintro e w1 ⟨rfl,rfl⟩;clear HCO;have HP:=Za (Qga ns W hns);unfold Qct Qjt at HP;simp only [h0,if_true,Bool.true_and] at HP;have hpre:=(Qfn h0).2;have HRP:Hid (∀ (w:World) (Z:Value),PathV w Z (QaO ns) (Qbm ns:Int) (QaF ns)->Calls Tryz.prog 92 #[Z] w fun e w'=>e = .returned (.string ⟨(Qbu ns).toArray⟩)/\Below w.heap.size w w'):=Za (fun w Z hZ=>QjE ns h0 w _ _ _ rfl rfl rfl Z hZ);generalize QaO ns=R at HP HRP;generalize (Qbm ns:Int)=U at HP HRP;generalize QaF ns=SG at HP HRP hpre;go_wp2_with fail;((with_reducible refine HP.out.mono ?_));rintro e w1 ⟨v1,rfl,ho1,hb1⟩;have HB1:=Za (Qah HB0.out (by rw [<- HPE.out];exact Nat.le_refl _) hb1);have HE1:=Za (Qab HE0.out hb1);have HS1:=Za (StrsAt.of_own ho1 (by omega));obtain ⟨a1,c1,rfl⟩:=Qix ho1;obtain ⟨n1,hn1⟩:∃ n,SG.length=n:=⟨_,rfl⟩;rw [hn1] at HS1 |-;have hal:Below w1.heap.size w1 (w1.alloc (.cells #[.bool R,.int .i64 U,.slice a1 n1 c1] 128)):=Zb.alloc Zc _;have HX:=Za (BoxAt.start (root:=R) (up:=U) HS1.out);have HB3:=Za (Qah HB1.out (by rw [<- HPE.out];exact Nat.le_refl _) hal);have HE3:=Za (Qab HE1.out hal);clear ho1 hb1 hal HB1 HS1 HP hn1 hpre HE1 e0 e1 e2 e3;go_upto_region 12 with fail;generalize w1.alloc (.cells #[.bool R,.int .i64 U,.slice a1 n1 c1] 128)=w2 at HX HB3 HE3 |-;obtain ⟨p0,p1,p2⟩:=HX.out.cells;go_wp2_with fail;((with_reducible refine (HRP.out _ _ HX.out.pathV).mono ?_));rintro e w4 ⟨rfl,hb4⟩;have HB4:=Za (Qah HB3.out (by rw [<- HPE.out];exact Nat.le_refl _) hb4);clear hb4 HRP;go_wp2_with fail;go_ret2;exact ⟨by first|rfl|(simp;done),by rw [HPE.out];exact HB4.out⟩
set_option maxRecDepth 100000 in
theorem Qu3 (v:Value) (p:List Nd) (d:Nat) (ih:EnR v p d) (i j:Nat) (w:World) (kd nn:Int) (M:Nat) (ns:List UInt8) (hn:p[i]?=some ⟨kd,nn,ns,(M:Nat)⟩) (hv:NSl w v p) (hpl:p.length<=60000) (hV:NdV ⟨kd,nn,ns,(M:Nat)⟩) (hc:chV p d M (i+1) j) (hlen:(Qak p (d+1) i).1.length<=300000000) (hM:M<=60000) (hns:ns.length<=1048576) (hk:kd≠1/\kd≠2/\kd≠3/\kd≠6/\kd≠7) :
  Calls Tryz.prog 43 #[v,.int .i64 i] w fun e w'=>e = .returned (.tuple #[.string ⟨(Qak p (d+1) i).1.toArray⟩,.int .i64 j])/\Below w.heap.size w w':=by
 have IH:=Za ih;unfold EnR at IH;have hnode:=Qmq (d:=d) hn hV hk;simp only [Int.toNat_natCast] at hnode;obtain ⟨T,hT⟩:∃ T,Qb9 (Qak p d) kd M 0 (i+1)=T:=⟨_,rfl⟩;obtain ⟨Y,hY⟩:∃ Y,(Qak p (d+1) i).1=Y:=⟨_,rfl⟩;rw [hT,hY] at hnode;rw [hY] at hlen |-;have HTL:Hid (T.length<=300000000):=Za (by
  have:=congrArg List.length hnode;rw [List.length_append] at this;omega)
 have HT0:Hid (([]:List UInt8)++Qb9 (Qak p d) kd M 0 (i+1)=T):=Za hT;obtain ⟨PRE,hPRE⟩:∃ PRE,Qnf ⟨kd,nn,ns,(M:Nat)⟩=PRE:=⟨_,rfl⟩;rw [hPRE] at hnode;have HNODE:Hid ((kd==4)=false->Y=PRE++T):=Za (fun h=>by rw [hnode,if_neg (beq_eq_false_iff_ne.1 h)]);have HBLK:Hid ((kd==4)=true->Y=QaP (T.length:Int)++T):=Za (fun h=>by rw [hnode,if_pos (beq_iff_eq.1 h)]);have hPL:PRE.length<=300000000:=by
  by_cases h4:kd=4
  ·rw [<- hPRE];unfold Qnf;simp [h4]
  ·have h1:=congrArg List.length hnode;rw [if_neg h4,List.length_append] at h1;omega
 have HPRE:=Za hPRE;unfold Qnf at HPRE;simp only [Int.toNat_natCast] at HPRE;have h3way:((kd==31)=true/\(kd==4)=false)\/((kd==31)=false/\(kd==4)=true)\/((kd==31)=false/\(kd==4)=false):=by
  by_cases h31:kd=31
  ·subst h31;exact .inl ⟨rfl,rfl⟩
  by_cases h4:kd=4
  ·subst h4;exact .inr (.inl ⟨rfl,rfl⟩)
  exact .inr (.inr ⟨Zd h31,Zd h4⟩)
 have H31:Hid (kd=31->M=2\/M=3):=Za (fun h=>by have:=hV.cond h;simp only at this;omega);obtain ⟨b31,hb31⟩:∃ b,(kd==31)=b:=⟨_,rfl⟩;have HC0:=Za hc;have HV5:=Za (fun h:kd=5=>(⟨hV.path (.inr h),hV.call h⟩:QaY ns=true/\(M:Int)<=7));have HV33:=Za (fun h:kd=33=>(hV.ret h:(M:Int)<=1));have HK:=Za hk;have hM0:(0:Int)<=(M:Int):=by omega
 have hM1:(M:Int)<=60000:=by omega
 have H3W:=Za h3way;have HNS:=Za hns;clear ih hnode hT hY hlen hPRE hV hc hk h3way hns;have HV0:=Za hv;obtain ⟨hip,hpe⟩:=List.getElem?_eq_some_iff.1 hn;obtain ⟨a,cap,rfl,hcc⟩:=hv.1;obtain ⟨g,off,rfl,hk⟩:=hcc (by rintro rfl;simp at hip);obtain ⟨d0,d1,d2,d3⟩:=hk i hip;rw [hpe] at d0 d1 d2 d3;simp only at d0 d1 d2 d3;have hi2:(i:Int)<(p.length:Int):=by omega
 obtain ⟨L,hL⟩:∃ L,p.length=L:=⟨_,rfl⟩;have HL:=Za hL;rw [hL] at hi2 HV0 hpl IH |-;have hi3:(i:Int)<60000:=by omega
 have HB0:Hid (Below w.heap.size w (w.alloc (Qaj kd nn ns (M:Nat)))):=Za (Zb.alloc Zc _);have HE0:=Za (heap_alloc_new w (Qaj kd nn ns (M:Nat)));have HV1:=Za (HV0.out.below HB0.out);have HVW:=HV0;obtain ⟨P,hP⟩:∃ P,w.heap.size=P:=⟨_,rfl⟩;have HPE:=Za hP;clear hcc hk hv hn hpe hip HV0 hL ;go_enter Tryz.func43,Tryz.ntmps43;go_upto_region 3 with fail;generalize w.alloc (Qaj kd nn ns (M:Nat))=W at HB0 HE0 HV1 |-;(try simp only [hP]);rw [hP] at HB0 HE0;clear hP d0 d1 d2 d3 hi2;obtain ⟨e0,e1,e2,e3⟩:=Qaa HE0.out;have HPW:Hid (P<W.heap.size):=Za (lt_of_block HE0.out);obtain ⟨C,hC⟩:∃ C,Qbd kd=C:=⟨_,rfl⟩;obtain ⟨CK,hCK⟩:∃ C,QdO kd=C:=⟨_,rfl⟩;have HCO:=Za (fun w=>Qfr kd (C:Int) CK (by rw [hC]) hCK w);have HCC:=Za hC;have hC1:(C:Int)<256:=by
  rw [<- hC];unfold Qbd
  repeat' split
  all_goals omega
 have hC0:(0:Int)<=(C:Int):=by omega
 clear hC hCK;go_wp2_with fail;((with_reducible refine (HCO.out _).mono ?_));rintro e w1 ⟨rfl,rfl⟩;clear HCO;go_upto_block 0 with fail;go_cut [7] (fun z wx=>z = .string ⟨PRE.toArray⟩/\Hid (Below P w wx/\wx.heap[P]?=some (Qaj kd nn ns (M:Nat))))
 case first =>
  have HCF:Hid (Below P w W/\W.heap[P]?=some (Qaj kd nn ns (M:Nat))):=Za ⟨HB0.out,HE0.out⟩;clear HT0 HNODE HBLK HTL H3W hb31 H31 IH HC0;by_cases h5:kd=5
  ·subst h5;obtain ⟨h0,h7⟩:=HV5.out rfl;have hw1:IntKind.u8.wrap (M:Int)=(M:Int):=by rw [IntKind.wrap_u8];omega
   have hC63:C=63:=by rw [<- HCC.out];decide
   subst hC63;have hns:=HNS.out;have HP:=Za (Qga ns W hns);unfold Qct Qjt at HP;simp only [h0,if_true,Bool.true_and] at HP;have hpre:=(Qfn h0).2;have HRP:Hid (∀ (w:World) (Z:Value),PathV w Z (QaO ns) (Qbm ns:Int) (QaF ns)->Calls Tryz.prog 92 #[Z] w fun e w'=>e = .returned (.string ⟨(Qbu ns).toArray⟩)/\Below w.heap.size w w'):=Za (fun w Z hZ=>QjE ns h0 w _ _ _ rfl rfl rfl Z hZ);generalize QaO ns=R at HP HRP;generalize (Qbm ns:Int)=U at HP HRP;generalize QaF ns=SG at HP HRP hpre;go_wp2_with fail;((with_reducible refine HP.out.mono ?_));rintro e w1 ⟨v1,rfl,ho1,hb1⟩;have HB1:=Za (Qah HB0.out (by rw [<- HPE.out];exact Nat.le_refl _) hb1);have HE1:=Za (Qab HE0.out hb1);have HS1:=Za (StrsAt.of_own ho1 (by omega));obtain ⟨a1,c1,rfl⟩:=Qix ho1;obtain ⟨n1,hn1⟩:∃ n,SG.length=n:=⟨_,rfl⟩;rw [hn1] at HS1 |-;have hal:Below w1.heap.size w1 (w1.alloc (.cells #[.bool R,.int .i64 U,.slice a1 n1 c1] 128)):=Zb.alloc Zc _;have HX:=Za (BoxAt.start (root:=R) (up:=U) HS1.out);have HB3:=Za (Qah HB1.out (by rw [<- HPE.out];exact Nat.le_refl _) hal);have HE3:=Za (Qab HE1.out hal);clear ho1 hb1 hal HB1 HS1 HP hn1 hpre HE1 e0 e1 e2 e3;go_upto_region 18 with fail;generalize w1.alloc (.cells #[.bool R,.int .i64 U,.slice a1 n1 c1] 128)=w2 at HX HB3 HE3 |-;obtain ⟨p0,p1,p2⟩:=HX.out.cells;have k3:∀ x,Grows w2 x->x.cell? ⟨w1.heap.size,0,none⟩=some (.bool R)/\x.cell? ⟨w1.heap.size,1,none⟩=some (.int .i64 U)/\x.cell? ⟨w1.heap.size,2,none⟩=some (.slice a1 n1 c1):=fun x hx=>Qa4 (Qab HX.out.1 hx);have k7:∀ x,Grows w2 x->x.cell? ⟨P,3,none⟩=some (.int .i64 (M:Nat)):=fun x hx=>(Qaa (Qab HE3.out hx)).2.2.2;refine QaI (Grows w2) 12 [.reads [0,3,6,7,8],.bag [1,2,4,5,9,10,11],.act 12] (by kernel_rfl) (by kernel_rfl) (by kernel_rfl) (by kernel_rfl) (by kernel_rfl) (fun _ _ d _ _ h=>by cases d<;>exact h) (Grows.self _) ?_;refine Qas ?_;simp only [Qaf,pQ1,pQ2,pQ3,pQ4,pQ5,pQ6]
   repeat (go_big_quiet_step (first|(intro hb;obtain ⟨q0,q1,q2⟩:=k3 _ hb;rw [q0];simp only [Result.andThen];rw [q1];simp only;rw [q2];exact ⟨rfl,rfl⟩)|(intro hb;rw [k7 _ hb];exact ⟨rfl,rfl⟩)))
   refine wpQuiet_nil ?_;obtain ⟨y,hy⟩:∃ y,Qbu ns=y:=⟨_,rfl⟩;rw [hy] at HRP;have hyl:y.length<=163:=by rw [<- hy];exact Qhd h0
   have HPY:Hid (PRE=[UInt8.ofNat 63]++y++[UInt8.ofNat M]):=Za (by rw [<- HPRE.out,if_pos trivial,hy]<;>rfl);have hM256:M<256:=by omega
   have HK:=Za (QpP (y:=y) (M:=M));clear k3 k7 p0 p1 p2 hy;refine Qo3 (BagJ w2 (Qqp y M) (fun _=>none)) (fun _=>undef) rfl ?_ ?_ ?_
   ·exact ⟨Grows.self _,(fun _ h=>by cases h),(fun _ _ h=>by cases h),(fun _ _ _ h=>by cases h)⟩
   ·intro jj hj dd u wz hd hdep HJ;have HJ:=Za HJ;simp only [List.mem_cons,List.not_mem_nil,or_false] at hj;rcases hj with rfl|rfl|rfl|rfl|rfl|rfl|rfl
    ·clear hdep;refine Qdg rfl ?_;simp only [Qaf,pQ1,pQ2,pQ3,pQ4,pQ5,pQ6];simp only [Qck,pQ1,pQ2,pQ3,pQ4,List.head?_cons,Option.bind_some,Act.put,List.setIfInBounds_toArray,List.set_cons_succ,List.set_cons_zero];go_wp2_with fail;have hb:Below wz.heap.size wz (wz.alloc (.cells #[.int .u8 63] 5 (0,0))):=Zb.alloc Zc _;have HJ5:=Za (HJ.out.call HK.out hb 1 rfl (v:=.slice (some ⟨wz.heap.size,0,none⟩) 1 1) ⟨⟨_,rfl⟩,Qi3 wz (C:=63) (by decide)⟩);exact ⟨fun _=>HJ5.out.grows,_,rfl,HJ5.out⟩
    ·have d1:=hdep 1 (by simp) (by kernel_rfl);clear hdep;obtain ⟨⟨g1,e1⟩,hbs⟩:=HJ.out.value 1 d1 rfl;have HJ5:=Za (HJ.out.call HK.out Zb 2 rfl (v:=.string ⟨[UInt8.ofNat 63].toArray⟩) rfl);refine Qdg rfl ?_;simp only [Qaf,pQ1,pQ2,pQ3,pQ4,pQ5,pQ6];simp only [Qck,pQ1,pQ2,pQ3,pQ4,List.head?_cons,Option.bind_some,Act.put,List.setIfInBounds_toArray,List.set_cons_succ,List.set_cons_zero];rw [e1] at hbs |-;have hcv:=hbs.conv;clear hbs e1 d1;go_wp2_with fail;exact ⟨fun _=>HJ5.out.grows,_,rfl,HJ5.out⟩
    ·clear hdep;refine Qdg rfl ?_;simp only [Qaf,pQ1,pQ2,pQ3,pQ4,pQ5,pQ6];simp only [Qck,pQ1,pQ2,pQ3,pQ4,List.head?_cons,Option.bind_some,Act.put,List.setIfInBounds_toArray,List.set_cons_succ,List.set_cons_zero];go_wp2_with fail;have hgz:Below w2.heap.size w2 wz:=HJ.out.grows;((with_reducible refine (HRP.out _ _ (HX.out.below hgz).pathV).mono ?_));rintro e w5 ⟨rfl,hb⟩;have HJ5:=Za (HJ.out.call HK.out hb 4 rfl (v:=.string ⟨y.toArray⟩) rfl);clear hb HJ;go_wp2_with fail;exact ⟨fun _=>HJ5.out.grows,_,rfl,HJ5.out⟩
    ·have d2:=hdep 2 (by simp) (by kernel_rfl);have d4:=hdep 4 (by simp) (by kernel_rfl);clear hdep;have e2:u 2=_:=HJ.out.value 2 d2 rfl;have e4:u 4=_:=HJ.out.value 4 d4 rfl;have HJ5:=Za (HJ.out.call HK.out Zb 5 rfl (v:=.string ⟨([UInt8.ofNat 63]++y).toArray⟩) rfl);refine Qdg rfl ?_;simp only [Qaf,pQ1,pQ2,pQ3,pQ4,pQ5,pQ6];simp only [Qck,pQ1,pQ2,pQ3,pQ4,List.head?_cons,Option.bind_some,Act.put,List.setIfInBounds_toArray,List.set_cons_succ,List.set_cons_zero];rw [e2,e4];clear e2 e4 d2 d4;go_wp2_with fail;exact ⟨fun _=>HJ5.out.grows,_,rfl,HJ5.out⟩
    ·clear hdep;refine Qdg rfl ?_;simp only [Qaf,pQ1,pQ2,pQ3,pQ4,pQ5,pQ6];simp only [Qck,pQ1,pQ2,pQ3,pQ4,List.head?_cons,Option.bind_some,Act.put,List.setIfInBounds_toArray,List.set_cons_succ,List.set_cons_zero];go_wp2_with fail;have hb:Below wz.heap.size wz (wz.alloc (.cells #[.int .u8 (M:Int)] 5 (0,0))):=Zb.alloc Zc _;have HJ5:=Za (HJ.out.call HK.out hb 9 rfl (v:=.slice (some ⟨wz.heap.size,0,none⟩) 1 1) ⟨⟨_,rfl⟩,Qi3 wz hM256⟩);exact ⟨fun _=>HJ5.out.grows,_,rfl,HJ5.out⟩
    ·have d9:=hdep 9 (by simp) (by kernel_rfl);clear hdep;obtain ⟨⟨g1,e1⟩,hbs⟩:=HJ.out.value 9 d9 rfl;have HJ5:=Za (HJ.out.call HK.out Zb 10 rfl (v:=.string ⟨[UInt8.ofNat M].toArray⟩) rfl);refine Qdg rfl ?_;simp only [Qaf,pQ1,pQ2,pQ3,pQ4,pQ5,pQ6];simp only [Qck,pQ1,pQ2,pQ3,pQ4,List.head?_cons,Option.bind_some,Act.put,List.setIfInBounds_toArray,List.set_cons_succ,List.set_cons_zero];rw [e1] at hbs |-;have hcv:=hbs.conv;clear hbs e1 d9;go_wp2_with fail;exact ⟨fun _=>HJ5.out.grows,_,rfl,HJ5.out⟩
    ·have d5:=hdep 5 (by simp) (by kernel_rfl);have d10:=hdep 10 (by simp) (by kernel_rfl);clear hdep;have e5:u 5=_:=HJ.out.value 5 d5 rfl;have e10:u 10=_:=HJ.out.value 10 d10 rfl;have HJ5:=Za (HJ.out.call HK.out Zb 11 rfl (v:=.string ⟨([UInt8.ofNat 63]++y++[UInt8.ofNat M]).toArray⟩) rfl);refine Qdg rfl ?_;simp only [Qaf,pQ1,pQ2,pQ3,pQ4,pQ5,pQ6];simp only [Qck,pQ1,pQ2,pQ3,pQ4,List.head?_cons,Option.bind_some,Act.put,List.setIfInBounds_toArray,List.set_cons_succ,List.set_cons_zero];rw [e5,e10];clear e5 e10 d5 d10;go_wp2_with fail;exact ⟨fun _=>HJ5.out.grows,_,by first|rfl|(simp;done),HJ5.out⟩
   ·intro d u wz hall HJ;have e11:u 11=_:=HJ.value 11 (hall 11 (by simp)) rfl;have HG:=Za HJ.grows;clear hall HJ;have HCZ:Hid (Below P w wz/\wz.heap[P]?=some (Qaj 5 nn ns (M:Nat))):=Za ⟨Qah HB3.out (by rw [HPE.out];exact Nat.le_refl _) HG.out,Qab HE3.out HG.out⟩;refine Qai rfl ?_;simp only [Qaf,pQ1,pQ2,pQ3,pQ4,pQ5,pQ6];simp only [Qck,pQ1,pQ2,pQ3,pQ4,List.head?_cons,Option.bind_some,Act.put,List.setIfInBounds_toArray,List.set_cons_succ,List.set_cons_zero];rw [e11];clear e11;go_wp2_with fail;refine ⟨fun h=>absurd h (by decide),Qbb ?_⟩;go_wp2_with fail;go_meet;rw [HPY.out];exact ⟨by first|rfl|(simp;done),HCZ⟩
  by_cases h33:kd=33
  ·subst h33;have h1:=HV33.out rfl;have hw1:IntKind.u8.wrap (M:Int)=(M:Int):=by rw [IntKind.wrap_u8];omega
   have HPR:Hid (PRE=[115,UInt8.ofNat M]):=Za HPRE.out.symm;have hC115:C=115:=by rw [<- HCC.out];decide
   subst hC115;have HBA:Hid (∀ o,Below P w (W.alloc o)/\(W.alloc o).heap[P]?=some (Qaj 33 nn ns (M:Nat))):=Za (fun o=>⟨Qah HB0.out (by rw [HPE.out];exact Nat.le_refl _) (Zb.alloc Zc o),Qab HE0.out (Zb.alloc Zc o)⟩);go_wp2_with fail;go_meet;rw [HPR.out];exact ⟨by first|rfl|(simp;done),Za (HBA.out _)⟩
  by_cases h4:kd=4
  ·subst h4;have HPR:Hid (PRE=[]):=Za HPRE.out.symm;go_wp2_with fail;go_meet;rw [HPR.out];exact ⟨rfl,HCF⟩
  have b1:(kd==1)=false:=Zd HK.out.1;have b2:(kd==2)=false:=Zd HK.out.2.1;have b3:(kd==3)=false:=Zd HK.out.2.2.1;have b6:(kd==6)=false:=Zd HK.out.2.2.2.1;have b7:(kd==7)=false:=Zd HK.out.2.2.2.2;have b5:(kd==5)=false:=Zd h5;have b33:(kd==33)=false:=Zd h33;have b4:(kd==4)=false:=Zd h4;have HPR:Hid (PRE=[UInt8.ofNat C]):=Za (by rw [<- HPRE.out,if_neg h5,if_neg h33,if_neg h4,HCC.out]);have HBA:Hid (∀ o,Below P w (W.alloc o)/\(W.alloc o).heap[P]?=some (Qaj kd nn ns (M:Nat))):=Za (fun o=>⟨Qah HB0.out (by rw [HPE.out];exact Nat.le_refl _) (Zb.alloc Zc o),Qab HE0.out (Zb.alloc Zc o)⟩);clear h5 h33 h4 HK HV5 HV33;go_wp2_with fail;go_meet;rw [HPR.out];exact ⟨by first|rfl|(simp;done),Za (HBA.out _)⟩
 case rest =>
  obtain ⟨rfl,HCUT⟩:=hcut;obtain ⟨w2,rfl⟩:∃ y:World,y=wc:=⟨_,rfl⟩;clear HV5 HV33 HK e0 e1 e2 e3 HPRE;go_wp2_with fail;go_loopw [1,14,15] (fun y z x wr=>∃ (q ii:Nat) (st:List UInt8),y = .int .i64 ii/\z = .string ⟨st.toArray⟩/\x = .int .i64 q/\q<=M/\ii<=60000/\st.length<=300000000/\Hid (chV p d (M-q) ii j)/\Hid (st++Qb9 (Qak p d) kd M q ii=T)/\Hid (Below P w wr/\wr.heap[P]?=some (Qaj kd nn ns (M:Nat)))) (fun _ _ x _=>M-(intOf x).toNat)
  case atStart=>exact ⟨0,i+1,[],by go_num,rfl,rfl,by omega,by omega,by simp,HC0,HT0,HCUT⟩
  case round =>
   obtain ⟨q,ii,st,rfl,rfl,rfl,hq,hii,hst,HC,HT,HBW⟩:=hrel;obtain ⟨w3,rfl⟩:∃ y:World,y=wr:=⟨_,rfl⟩;clear HCUT HC0 HT0;obtain ⟨e0,e1,e2,e3⟩:=Qaa HBW.out.2;by_cases hlt:q<M
   ·have hlt':(q:Int)<(M:Int):=by omega
    obtain ⟨m',hMq⟩:∃ m',M-q=m'+1:=⟨M-q-1,by omega⟩;have hx2:=HC.out;rw [hMq] at hx2;obtain ⟨b,k,j1,hv1,hx2⟩:=hx2;have HT1:Hid ((st++QrM kd q++(Qak p d ii).1)++Qb9 (Qak p d) kd M (q+1) j1=T):=Za (by
     rw [<- HT.out,Qog hlt H31.out (Qa7 p d b k ii j1 hv1),List.append_assoc,List.append_assoc])
    have HC1:Hid (chV p d (M-(q+1)) j1 j):=Za (by rw [show M-(q+1)=m' by omega];exact hx2);have hj1:j1<=60000:=by
     have:=Qau p d b k ii j1 hv1;have:=HL.out;omega
    have HCL:=Za (IH.out b k ii j1 w3 hv1 (HVW.out.below (by rw [HPE.out];exact HBW.out.1)));obtain ⟨y,hy⟩:∃ y,(Qak p d ii).1=y:=⟨_,rfl⟩;rw [hy] at HCL HT1;have hyl:y.length<=300000000:=by
     have h1:=congrArg List.length HT1.out;have h2:=HTL.out;simp only [List.length_append] at h1;omega
    clear hv1 hx2 HC HT hy hMq;by_cases h2:b31=true/\q=2
    ·have hq2:((q:Int)==2)=true:=by rw [beq_iff_eq];omega
     have hb3:(kd==31)=true:=by rw [hb31];exact h2.1
     have hstn:(st++[1]++y).length<=300000000:=by
      have h1:=congrArg List.length HT1.out;have h3:=HTL.out;unfold QrM at h1;rw [if_pos ⟨beq_iff_eq.1 hb3,h2.2⟩] at h1;simp only [List.length_append] at h1;simp only [List.length_append];omega
     have HT2:Hid ((st++[1]++y)++Qb9 (Qak p d) kd M (q+1) j1=T):=Za (by rw [<- HT1.out];unfold QrM;rw [if_pos ⟨beq_iff_eq.1 hb3,h2.2⟩]);clear HT1 h2 hb31;go_wp2_with fail;((with_reducible refine HCL.out.mono ?_));rintro e w4 ⟨rfl,hbw4⟩;have HBW4:Hid (Below P w w4/\w4.heap[P]?=some (Qaj kd nn ns (M:Nat))):=Za ⟨Qah HBW.out.1 (by rw [HPE.out];exact Nat.le_refl _) hbw4,Qab HBW.out.2 hbw4⟩;clear hbw4 HCL HBW e0 e1 e2 e3;go_wp2_with fail;go_roundw
     case rel=>first|exact ⟨q+1,j1,st++[1]++y,by go_num,rfl,by go_num,by omega,hj1,hstn,HC1,HT2,HBW4⟩|exact ⟨q+1,j1,st++[1]++y,by go_num,by simp,by go_num,by omega,hj1,hstn,HC1,HT2,HBW4⟩
     case measure=>simp [intOf];omega
    ·have hg:(kd==31)=false\/((kd==31)=true/\((q:Int)==2)=false):=by
      rw [hb31];cases b31 with
      | false=>exact .inl rfl
      | true=>exact .inr ⟨rfl,by rw [beq_eq_false_iff_ne];intro h;exact h2 ⟨rfl,by omega⟩⟩
     have hstn:(st++y).length<=300000000:=by
      have h1:=congrArg List.length HT1.out;have h3:=HTL.out;simp only [List.length_append] at h1;simp only [List.length_append];omega
     have HT2:Hid ((st++y)++Qb9 (Qak p d) kd M (q+1) j1=T):=Za (by
      rw [<- HT1.out];unfold QrM;rw [if_neg,List.append_nil];rintro ⟨x1,x2⟩;refine h2 ⟨?_,x2⟩;rw [<- hb31,x1]<;>rfl)
     clear HT1 h2 hb31;rcases hg with hb3|⟨hb3,hq2⟩
     all_goals
      go_wp2_with fail;((with_reducible refine HCL.out.mono ?_));rintro e w4 ⟨rfl,hbw4⟩;have HBW4:Hid (Below P w w4/\w4.heap[P]?=some (Qaj kd nn ns (M:Nat))):=Za ⟨Qah HBW.out.1 (by rw [HPE.out];exact Nat.le_refl _) hbw4,Qab HBW.out.2 hbw4⟩;clear hbw4 HCL HBW e0 e1 e2 e3;go_wp2_with fail;go_roundw
      case rel=>first|exact ⟨q+1,j1,st++y,by go_num,rfl,by go_num,by omega,hj1,hstn,HC1,HT2,HBW4⟩|exact ⟨q+1,j1,st++y,by go_num,by simp,by go_num,by omega,hj1,hstn,HC1,HT2,HBW4⟩
      case measure=>simp [intOf];omega
   ·have hlt':¬ (q:Int)<(M:Int):=by omega
    have hqM:q=M:=by omega
    have HFIN:Hid (st++QpM kd M=T/\ii=j):=Za (by
     have h1:=HT.out;have h2:=HC.out;rw [hqM,Nat.sub_self] at h2;rw [hqM,QpN H31.out] at h1;exact ⟨h1,h2⟩)
    clear HC HT hq hqM;obtain ⟨h8,rfl⟩:=HFIN.out;have HTT:=Za h8;clear HFIN h8 hb31;rcases H3W.out with ⟨hb3,hb4⟩|⟨hb3,hb4⟩|⟨hb3,hb4⟩
    . -- an If
     have HRES:=Za (HNODE.out hb4);by_cases hM2:M=2
     ·have hm:((M:Int)==2)=true:=by rw [beq_iff_eq];omega
      have HST:Hid (st++[0]=T):=Za (by rw [<- HTT.out];unfold QpM;rw [if_pos ⟨beq_iff_eq.1 hb3,hM2⟩]);have hs0:(st++[0]).length<=300000000:=by rw [HST.out];exact HTL.out
      have HM2:=Za hM2;clear hM2;go_wp2_with fail;go_ret2;rw [HRES.out,<- HST.out,HPE.out];exact ⟨by first|rfl|(simp;done),HBW.out.1⟩
     ·have hm:((M:Int)==2)=false:=by rw [beq_eq_false_iff_ne];omega
      have HST:Hid (st=T):=Za (by rw [<- HTT.out];unfold QpM;rw [if_neg (fun x=>hM2 x.2),List.append_nil]);go_wp2_with fail;go_ret2;rw [HRES.out,<- HST.out,HPE.out];exact ⟨by first|rfl|(simp;done),HBW.out.1⟩
    . -- a block
     have HRES:=Za (HBLK.out hb4);have HST:Hid (st=T):=Za (by rw [<- HTT.out];unfold QpM;rw [if_neg (fun x=>by rw [x.1] at hb3;exact absurd hb3 (by decide)),List.append_nil]);have hsl:st.length<=300000000:=by rw [HST.out];exact HTL.out
     have HLEN:=Za (fun w=>QlK (st.length:Int) w (by omega) (by omega));obtain ⟨ls,hls⟩:∃ l,QaP (st.length:Int)=l:=⟨_,rfl⟩;have HLS:=Za hls;have hll:ls.length<=10:=by rw [<- hls];have:=QhR (st.length:Int);omega
     rw [hls] at HLEN;clear hls;go_wp2_with fail;((with_reducible refine (HLEN.out _).mono ?_));rintro e w5 ⟨rfl,hb5⟩;have HB5:=Za (Qah HBW.out.1 (by rw [HPE.out];exact Nat.le_refl _) hb5);clear hb5 HLEN;go_wp2_with fail;go_ret2;rw [HRES.out,<- HST.out,HPE.out,HLS.out];exact ⟨by first|rfl|(simp;done),HB5.out⟩
    ·have HRES:=Za (HNODE.out hb4);have HST:Hid (st=T):=Za (by rw [<- HTT.out];unfold QpM;rw [if_neg (fun x=>by rw [x.1] at hb3;exact absurd hb3 (by decide)),List.append_nil]);go_wp2_with fail;go_ret2;rw [HRES.out,<- HST.out,HPE.out];exact ⟨by first|rfl|(simp;done),HBW.out.1⟩
end
section
open Go.RowKit
theorem QrO (p:List Nd) (d:Nat) {m i j:Nat} (h:chV p d m i j):(QaB (Qak p d) m i).2=j:=QdU (Qa7 p d) m i j h
def Qi4 (p:List Nd):Prop:=∀ n∈p,n.str.length<=1048576/\0<=n.num
theorem Qoh {p:List Nd} {d i:Nat} {n:Nd} (hn:p[i]?=some n) :
  (n.kind=1->(Qak p (d+1) i).1=QaZ n.num.toNat)/\(n.kind=2->(Qak p (d+1) i).1=Qco n.str)/\(n.kind=3->(Qak p (d+1) i).1=Qbu n.str) /\
   (n.kind=6->(Qak p (d+1) i).1=[UInt8.ofNat (96+n.num.toNat)])/\(n.kind=7->(Qak p (d+1) i).1=[UInt8.ofNat (104+n.num.toNat)]):=by
 refine ⟨fun h=>?_,fun h=>?_,fun h=>?_,fun h=>?_,fun h=>?_⟩<;>rw [Qak,hn]<;>simp [h]<;>rfl
theorem QpQ (v:Value) (p:List Nd) (m:Int) (d:Nat) (hpl:p.length<=1000000) (hP:Qi4 p) (ih:EnK v p m d):EnT v p m (d+1):=by
 intro b k i j cv l B w hv hbt hen hlen;obtain ⟨n,hn,hV,hc⟩:=Qf2 hv;have hg:=Qau p (d+1) b k i j hv;obtain ⟨hs1,hs2⟩:=hP n (List.mem_of_getElem? hn);obtain ⟨kd,nn,ns,np⟩:=n;have hpos:=hV.pos;simp only at hpos hs1 hs2;obtain ⟨M,rfl⟩:∃ M:Nat,np=M:=⟨np.toNat,by omega⟩;simp only [Int.toNat_natCast] at hc;have hle:=QhT M (i+1) j hc (by omega);have hM:M<=1000000:=by omega
 have hl0:l.length<=100000000:=by omega
 obtain ⟨x1,x2,x3,x6,x7⟩:=Qoh (d:=d) hn;simp only at x1 x2 x3 x6 x7;have hleaf:kd=1\/kd=2\/kd=3\/kd=6\/kd=7->i+1=j:=fun h=>by
  have h0:=hV.leaf h;simp only at h0;obtain rfl:M=0:=by omega
  exact hc
 by_cases h1:kd=1
 ·subst h1;rw [x1 rfl,<- hleaf (.inl rfl)];exact QuX v p m i w nn _ ns cv l B hpl hbt hen hl0 hn hs2 (by have:=Qkz nn.toNat;omega)
 by_cases h2:kd=2
 ·subst h2;rw [x2 rfl,<- hleaf (.inr (.inl rfl))];exact QuY v p m i w nn _ ns cv l B hpl hbt hen hl0 hn (hV.str rfl)
 by_cases h3:kd=3
 ·subst h3;rw [x3 rfl,<- hleaf (.inr (.inr (.inl rfl)))];exact Qtk v p m i w nn _ ns cv l B hpl hbt hen hl0 hn (hV.path (.inl rfl)) (by omega)
 by_cases h6:kd=6
 ·subst h6;rw [x6 rfl,<- hleaf (.inr (.inr (.inr (.inl rfl))))];exact QuZ v p m i w nn _ ns cv l B hpl hbt hen hl0 hn hs2 (hV.loc rfl)
 by_cases h7:kd=7
 ·subst h7;rw [x7 rfl,<- hleaf (.inr (.inr (.inr (.inr rfl))))];exact Qu0 v p m i w nn _ ns cv l B hpl hbt hen hl0 hn hs2 (hV.arg rfl)
 have hnode:=Qmq (d:=d) hn hV ⟨h1,h2,h3,h6,h7⟩;simp only [Int.toNat_natCast] at hnode;have hst:kd≠31->Qb9 (Qak p d) kd M 0 (i+1)=(QaB (Qak p d) M (i+1)).1:=fun h=>by
  unfold Qb9;rw [if_neg (fun x=>h x.1),Nat.sub_zero]
 by_cases h4:kd=4
 ·subst h4;have hX:(Qak p (d+1) i).1=QaP ((QaB (Qak p d) M (i+1)).1.length:Nat)++(QaB (Qak p d) M (i+1)).1:=by
   rw [hnode,if_pos rfl,hst (by decide)]
  rw [hX,List.length_append] at hlen;rw [hX,<- List.append_assoc];exact QrN v p m d ih i j w nn M ns cv l B hpl hbt hen hM hc hn (by omega)
 by_cases h5:kd=5
 ·subst h5;have hX:(Qak p (d+1) i).1=63::(Qbu ns++[UInt8.ofNat M])++(QaB (Qak p d) M (i+1)).1:=by
   rw [hnode,if_neg (by decide),hst (by decide)];unfold Qnf;simp
  rw [hX] at hlen;simp only [List.length_append,List.length_cons,List.length_nil] at hlen;have h:=Qtl v p m d ih i j w nn M ns cv l B hpl hbt hen hM hc hn (by have:=hV.call rfl;simp only at this;omega) (hV.path (.inr rfl)) (by omega) (by omega);have e:l++(Qak p (d+1) i).1=(((l++[UInt8.ofNat 63])++Qbu ns)++[UInt8.ofNat M])++(QaB (Qak p d) M (i+1)).1:=by
   rw [hX];simp
  rw [e];exact h
 by_cases h33:kd=33
 ·subst h33;have hX:(Qak p (d+1) i).1=[115,UInt8.ofNat M]++(QaB (Qak p d) M (i+1)).1:=by
   rw [hnode,if_neg (by decide),hst (by decide)];unfold Qnf;simp
  rw [hX] at hlen;simp only [List.length_append,List.length_cons,List.length_nil] at hlen;have h:=Qu2 v p m d ih i j w nn M ns cv l B hpl hbt hen hM hc hn (by have:=hV.ret rfl;simp only at this;omega) (by omega);have e:l++(Qak p (d+1) i).1=(l++[UInt8.ofNat 115,UInt8.ofNat M])++(QaB (Qak p d) M (i+1)).1:=by
   rw [hX];simp
  rw [e];exact h
 by_cases h31:kd=31
 ·subst h31;have hcond:=hV.cond rfl;simp only at hcond;obtain ⟨D,hD⟩:∃ D,M=2+D:=⟨M-2,by omega⟩;have hD1:D<=1:=by omega
  obtain ⟨q,hc1,hc2⟩:=Qd7 2 D (i+1) j (by rw [<- hD];exact hc);have hX:(Qak p (d+1) i).1=[UInt8.ofNat 113]++((QaB (Qak p d) 2 (i+1)).1++UInt8.ofNat D::(QaB (Qak p d) D q).1):=by
   have hs31:Qb9 (Qak p d) 31 M 0 (i+1)=(QaB (Qak p d) 2 (i+1)).1++UInt8.ofNat D::(QaB (Qak p d) D q).1:=by
    unfold Qb9;rw [if_pos ⟨rfl,by omega⟩,Nat.sub_zero,QrO p d hc1,show M-2=D by omega]
   rw [hnode,if_neg (by decide),hs31];unfold Qnf;rfl
  rw [hX] at hlen;simp only [List.length_append,List.length_cons,List.length_nil] at hlen;have h:=Qwo v p m d ih i j w nn M ns cv l B hpl hbt hen hM D q hD hD1 hc1 hc2 hn (by omega);have e:l++(Qak p (d+1) i).1=(((l++[UInt8.ofNat 113])++(QaB (Qak p d) 2 (i+1)).1)++[UInt8.ofNat D])++(QaB (Qak p d) D q).1:=by
   rw [hX];simp
  rw [e];exact h
 ·have hX:(Qak p (d+1) i).1=[UInt8.ofNat (Qbd kd)]++(QaB (Qak p d) M (i+1)).1:=by
   rw [hnode,if_neg h4,hst h31];unfold Qnf;simp only [h5,h33,h4,if_false]
  rw [hX] at hlen;simp only [List.length_append,List.length_cons,List.length_nil] at hlen;have h:=Qu1 v p m d ih i j w nn M ns cv l B hpl hbt hen hM hc kd hn ⟨h1,h2,h3,h4,h6,h7,h5,h33,h31⟩ (by omega);rw [hX,<- List.append_assoc];exact h
theorem Qqq (v:Value) (p:List Nd) (m:Int) (hpl:p.length<=1000000) (hP:Qi4 p):∀ d,EnT v p m d
 | 0=>fun b k i j cv l B w hv=>by rw [Qan] at hv;cases hv
 | d+1=>QpQ v p m d hpl hP (QlN v p m d (Qqq v p m hpl hP d))
theorem Qqr (v:Value) (p:List Nd) (hpl:p.length<=60000) (hP:Qi4 p):∀ d,EnR v p d
 | 0=>fun b k i j w hv=>by rw [Qan] at hv;cases hv
 | d+1=>fun b k i j w hv hsl=>by
   obtain ⟨n,hn,hV,hc⟩:=Qf2 hv;have hg:=Qau p (d+1) b k i j hv;have hlen:=Qnc hv;obtain ⟨hs1,hs2⟩:=hP n (List.mem_of_getElem? hn);obtain ⟨kd,nn,ns,np⟩:=n;have hpos:=hV.pos;simp only at hpos hs1 hs2;obtain ⟨M,rfl⟩:∃ M:Nat,np=M:=⟨np.toNat,by omega⟩;simp only [Int.toNat_natCast] at hc;have hle:=QhT M (i+1) j hc (by omega);have hM:M<=60000:=by omega
   obtain ⟨x1,x2,x3,x6,x7⟩:=Qoh (d:=d) hn;simp only at x1 x2 x3 x6 x7;have hleaf:kd=1\/kd=2\/kd=3\/kd=6\/kd=7->i+1=j:=fun h=>by
    have h0:=hV.leaf h;simp only at h0;obtain rfl:M=0:=by omega
    exact hc
   by_cases h1:kd=1
   ·subst h1;rw [x1 rfl,<- hleaf (.inl rfl)];exact QuT v p i w nn _ ns hn hsl (by omega) hs2
   by_cases h2:kd=2
   ·subst h2;rw [x2 rfl,<- hleaf (.inr (.inl rfl))];exact QuU v p i w nn _ ns hn hsl (by omega) (hV.str rfl)
   by_cases h3:kd=3
   ·subst h3;rw [x3 rfl,<- hleaf (.inr (.inr (.inl rfl)))];exact Qtm v p i w nn _ ns hn hsl hpl (hV.path (.inl rfl)) hs1
   by_cases h6:kd=6
   ·subst h6;rw [x6 rfl,<- hleaf (.inr (.inr (.inr (.inl rfl))))];exact QuV v p i w nn _ ns hn hsl (by omega) hs2 (hV.loc rfl)
   by_cases h7:kd=7
   ·subst h7;rw [x7 rfl,<- hleaf (.inr (.inr (.inr (.inr rfl))))];exact QuW v p i w nn _ ns hn hsl (by omega) hs2 (hV.arg rfl)
   exact Qu3 v p d (Qqr v p hpl hP d) i j w kd nn M ns hn hsl hpl hV hc (by
    have:257 * (j-i)<=257 * 60000:=Nat.mul_le_mul_left _ (by omega);omega) hM hs1 ⟨h1,h2,h3,h6,h7⟩
end
section
open Go.RowKit
attribute [local go_sem] ByteArray.mk_append_mk Qac Qad Qae
theorem Qmr (m:Int) (p:List Nd) (v:Value) (w:World) (hv:NSl w v p) (hm:SynG m w) (hl:p.length<=9223372036854775000) :
  Calls Tryz.prog 41 #[v] w fun e w'=>e = .returned (.bool (QaS p))/\Below w.heap.size w w':=by
 obtain ⟨X,hX⟩:∃ X,Hid (QaS p=X):=⟨_,Za rfl⟩;have HV0:=Za hv;have HG0:=Za hm;have HB0:=Za (Below.refl w.heap.size w);obtain ⟨a,cap,rfl,hc⟩:=hv.1;clear hc hv hm;by_cases h2:p.length<=2048
 ·have h2':¬ (2048:Int)<(p.length:Int):=by omega
  have HX0:Hid (QbT p p.length 0=X):=Za (by rw [<- hX.out];unfold QaS;rw [decide_eq_true h2,Bool.true_and]);have HEL:=Za (Qof m p (by omega) 32 1 (by omega) (by omega)).1;obtain ⟨L,hL⟩:∃ L,p.length=L:=⟨_,rfl⟩;have HL:=Za hL;rw [hL] at h2 h2' hl HV0 HX0 |-;clear hL;go_enter Tryz.func41,Tryz.ntmps41;go_wp2_with fail;go_loopw [3] (fun x wr=>∃ (f q:Nat),x = .int .i64 q/\q<=L/\L<=f+q/\Hid (QbT p f q=X)/\Hid (NSl wr (.slice a L cap) p)/\Hid (SynG m wr)/\Hid (Below w.heap.size w wr)) (fun x _=>L-(intOf x).toNat)
  case atStart=>exact ⟨L,0,rfl,by omega,by omega,HX0,HV0,HG0,HB0⟩
  case round =>
   clear HX0 HV0 HG0 HB0;obtain ⟨f,q,rfl,hq,hf,HX,HV,HG,HB⟩:=hrel;obtain ⟨w4,rfl⟩:∃ y:World,y=wr:=⟨_,rfl⟩;by_cases hlt:q<L
   ·have hlt':(q:Int)<(L:Int):=by omega
    obtain ⟨f,rfl⟩:∃ g,f=g+1:=⟨f-1,by omega⟩;have HXK:Hid (X=match Qan p 32 false 68 q with|none=>false|some j=>QbT p f j):=Za (by rw [<- HX.out,QbT,if_neg (by rw [HL.out];omega)]<;>rfl);have HC:Hid (Calls Tryz.prog 81 #[.slice a L cap,.int .i64 q,.int .u8 68,.int .i64 1] w4 (QeM w4 (Qan p 32 false 68 q))):=Za (HEL.out 68 q _ w4 HV.out HG.out (by rw [HL.out];exact hq));unfold QeM at HC;cases hx:Qan p 32 false 68 q with
    | none =>
      rw [hx] at HC HXK;have HX2:Hid (X=false):=HXK;clear hx HX HXK;simp only [Option.isSome_none,Option.getD_none] at HC;go_wp2_with fail;((with_reducible refine HC.out.mono ?_));rintro e w5 ⟨rfl,hb5⟩;have HB5:Hid (Below w.heap.size w w5):=Za (Qah HB.out Zc hb5);clear hb5;go_wp2_with fail;go_ret;rw [hX.out,HX2.out];exact ⟨rfl,HB5.out⟩
    | some z =>
      rw [hx] at HC HXK;have hz:=Qau p 32 false 68 q z hx;rw [HL.out] at hz;obtain ⟨hz1,hz2⟩:=hz;have HX5:Hid (QbT p f z=X):=Za HXK.out.symm;clear hx HX HXK;simp only [Option.isSome_some,Option.getD_some] at HC;go_wp2_with fail;((with_reducible refine HC.out.mono ?_));rintro e w5 ⟨rfl,hb5⟩;have HB5:Hid (Below w.heap.size w w5):=Za (Qah HB.out Zc hb5);have HV5:=Za (HV.out.below hb5);have HG5:=Za (HG.out.below hb5 HG.out.low);clear hb5 HC;go_wp2_with fail;go_roundw
      case rel=>exact ⟨f,z,rfl,hz2,by omega,HX5,HV5,HG5,HB5⟩
      case measure=>simp [intOf];omega
   ·have hlt':¬ (q:Int)<(L:Int):=by omega
    have HX5:Hid (X=true):=Za (by
     rw [<- HX.out];cases f with
     | zero=>rw [QbT];exact decide_eq_true (by rw [HL.out];omega)
     | succ f=>rw [QbT,if_pos (by rw [HL.out];omega)])
    clear HX;go_wp2_with fail;go_ret;rw [hX.out,HX5.out];exact ⟨rfl,HB.out⟩
 ·have h2':(2048:Int)<(p.length:Int):=by omega
  have HX0:Hid (X=false):=Za (by rw [<- hX.out];unfold QaS;rw [decide_eq_false h2,Bool.false_and]);go_enter Tryz.func41,Tryz.ntmps41;go_wp2_with fail;go_ret;rw [hX.out,HX0.out];exact ⟨rfl,HB0.out⟩
theorem QrP (s v x r:List UInt8) (h:Qbp s v=some (x,r)):x.length<=255:=by
 fun_induction Qbp s v
 all_goals first
  | (cases h;done)
  | (rename_i ih;exact ih h)
  | (injection h with h;injection h with h1 h2;rw [<- h1];omega)
theorem QrQ {d t:List UInt8} {k v n:Nat} (h:QcD d=some (k,v,t,n)):(t.length<=d.length\/t.length<=255)/\(k=2->t≠[]):=by
 cases d with
 | nil=>cases h
 | cons c r =>
   rw [QcD] at h;split at h
   ·obtain ⟨z,hz,e⟩:=Option.map_eq_some_iff.1 h;injection e with e1 e2;injection e2 with e2 e3;injection e3 with e3 e4;subst e1 e3;exact ⟨.inl (by simp),fun h=>by cases h⟩
   rename_i hd
   split at h
   ·rename_i hlt
    split at h
    ·split at h
     ·injection h with e;injection e with e1 e2;injection e2 with e2 e3;injection e3 with e3 e4;subst e1 e3;refine ⟨.inl (by rw [List.length_take];omega),fun _ hn=>?_⟩;have:1<=Qbh (c::r):=Qd4 (by unfold idB;rw [hlt]<;>rfl);rw [List.take_eq_nil_iff] at hn;rcases hn with hn|hn
      ·omega
      ·cases hn
     ·cases h
    ·obtain ⟨z,hz,e⟩:=Option.map_eq_some_iff.1 h;injection e with e1 e2;injection e2 with e2 e3;injection e3 with e3 e4;subst e1 e3;exact ⟨.inl (by rw [List.length_take];omega),fun h=>by cases h⟩
   split at h
   ·obtain ⟨z,hz,e⟩:=Option.map_eq_some_iff.1 h;injection e with e1 e2;injection e2 with e2 e3;injection e3 with e3 e4;subst e1 e3;exact ⟨.inl (by rw [List.length_take];omega),fun h=>by cases h⟩
   split at h
   ·obtain ⟨⟨x,y⟩,hz,e⟩:=Option.map_eq_some_iff.1 h;injection e with e1 e2;injection e2 with e2 e3;injection e3 with e3 e4;subst e1 e3;exact ⟨.inr (QrP _ _ _ _ hz),fun h=>by cases h⟩
   split at h
   ·cases h
   ·injection h with e;injection e with e1 e2;injection e2 with e2 e3;injection e3 with e3 e4;subst e3;refine ⟨.inl (by simp),fun h=>?_⟩;rw [<- e1] at h;have h9:QdI c≠2:=by
     unfold QdI
     repeat' split
     all_goals decide
    exact absurd h h9
end
section
open Go.RowKit
attribute [local go_sem] ByteArray.mk_append_mk Qac Qad Qae
abbrev Qeg (tv:Value) (i:Int) (nv:Value) (F:Int):Obj:=.cells #[tv,.int .i64 i,nv,.int .i64 F] 138 (0,0)
theorem Qeh {w:World} {B:Nat} {v:Value} {l:List Nd} (h:NodesI w B v l) {b:Nat} {tv nv:Value} {i F:Int} (hb:w.heap[b]?=some (Qeg tv i nv F)):v.ownBlock≠some b:=by
 intro e;obtain ⟨cur,hc⟩:=QcB h e;rw [hb] at hc;injection hc with hc;injection hc with _ h2 _;exact absurd h2 (by decide)
structure RSt (m:Int) (B b:Nat) (w:World) (L:List TokI) (i:Nat) (F:Int) (o:List Nd):Prop where
 ex:∃ tv nv,w.heap[b]?=some (Qeg tv i nv F)/\TokB w B tv L/\NodesI w B nv o
 base:B<=b
 size:B<=w.heap.size
 syn:SynG m w
 hund:Qv2 B
 good:TGood L
 ix:i<=L.length
 f0 : -1<=F
 f1:F<=L.length
 ol:(o.length:Int)<=i+F+1
theorem RSt.below {m F:Int} {B b i:Nat} {w w':World} {L:List TokI} {o:List Nd} (h:RSt m B b w L i F o) (hb:Below w.heap.size w w'):RSt m B b w' L i F o:=by
 obtain ⟨⟨tv,nv,h1,h2,h3⟩,h4,h5,h6,h7,h8,h9,ha,hc,hd⟩:=h;exact ⟨⟨tv,nv,Qab h1 hb,h2.below (hb.mono h5),h3.below hb⟩,h4,Nat.le_trans h5 hb.size,h6.below (hb.mono h5) h7,h7,h8,h9,ha,hc,hd⟩
theorem RSt.alloc {m F:Int} {B b i:Nat} {w:World} {L:List TokI} {o:List Nd} (h:RSt m B b w L i F o) (x:Obj):RSt m B b (w.alloc x) L i F o:=h.below (Zb.alloc Zc _)
def QeN:List TokI->Int
 | []=>0
 | t::_=>t.kind
theorem QgO (k:Int) (hk:k≠0) (r:List TokI):(QeN r==k)=atT k r:=by
 cases r with
 | nil=>show ((0:Int)==k)=false;rw [beq_eq_false_iff_ne];omega
 | cons t q=>rfl
theorem TokB.drop_cells {w:World} {B:Nat} {v:Value} {L:List TokI} {i:Nat} {t:TokI} {q:List TokI} (h:TokB w B v L) (hd:L.drop i=t::q) :
  ∃ g off cap,v = .slice (some ⟨g,off,none⟩) L.length cap/\g<B/\i<L.length/\TAt w g (off+i * 4) t:=by
 obtain ⟨a,cap,rfl,hl,hc⟩:=h;have hi:i<L.length:=by
  rcases Nat.lt_or_ge i L.length with h|h
  ·exact h
  ·rw [List.drop_eq_nil_of_le h] at hd;cases hd
 obtain ⟨g,off,rfl,hB,hk⟩:=hc (by rintro rfl;simp at hi);refine ⟨g,off,cap,rfl,hB,hi,?_⟩;have e:L[i]=t:=by
  have:=List.drop_eq_getElem_cons hi;rw [hd] at this;injection this with h1 _;exact h1.symm
 have:=hk i hi;rw [e] at this;exact this
theorem Qfs (m F:Int) (B b i:Nat) (w:World) (L:List TokI) (o:List Nd) (h:RSt m B b w L i F o) (hL:L.length<=1000000) :
  Calls Tryz.prog 143 #[.pointer (some ⟨b,0,none⟩)] w fun e w'=>e = .returned (.int .i64 (QeN (L.drop i)))/\∃ n,w'=w.drewN n:=by
 obtain ⟨⟨tv,nv,h1,h2,h3⟩,h4,h5,h6,h7,h8,h9,ha,hc,hd⟩:=h;cases hx:L.drop i with
 | nil =>
   obtain ⟨a,cap,rfl,hl,hc⟩:=h2;have hi:(i:Int)>=(L.length:Int):=by
    have:=congrArg List.length hx;rw [List.length_drop] at this;simp only [List.length_nil] at this;omega
   obtain ⟨c0,c1,c2,c3⟩:=Qaa h1;clear hc h3 h6 h8 h1 hx h7;go_enter Tryz.func143,Tryz.ntmps143;go_wp2_with fail;go_quiet (fail);go_wp2_with fail;go_ret;exact ⟨rfl,_,rfl⟩
 | cons t q =>
   obtain ⟨g,off,cap,rfl,hB,hi,d0,d1,d2,d3⟩:=h2.drop_cells hx;obtain ⟨c0,c1,c2,c3⟩:=Qaa h1;have hi1:¬ (i:Int)>=(L.length:Int):=by omega
   have hi2:(i:Int)<(L.length:Int):=by omega
   clear h3 h6 h8 h1 hx h7 h2;go_enter Tryz.func143,Tryz.ntmps143;go_wp2_with fail;go_quiet (fail);go_wp2_with fail;go_quiet (fail);go_wp2_with fail;go_ret;exact ⟨rfl,_,by unfold World.drewN;simp only [Nat.add_assoc];rfl⟩
theorem RSt.setF {m F G:Int} {B b i:Nat} {w:World} {L:List TokI} {o:List Nd} (h:RSt m B b w L i F o) (h0:F<=G) (h1:G<=L.length) :
  RSt m B b (w.setCell ⟨b,3,none⟩ (.int .i64 G)) L i G o:=by
 obtain ⟨tv,nv,k1,k2,k3⟩:=h.ex;have hB:Below B w (w.setCell ⟨b,3,none⟩ (.int .i64 G)):=Zb.setCell h.base _;have:=h.f0;have:=h.ol;exact ⟨⟨tv,nv,heap_setCell_same _ _ 3 _ _ _ k1,k2.below hB,Qa6 k3 _ _ (Qeh k3 k1)⟩,h.base,Nat.le_trans h.size hB.size,h.syn.below hB h.hund,h.hund,h.good,h.ix,by omega,h1,by omega⟩
theorem RSt.setI {m F:Int} {B b i j:Nat} {w:World} {L:List TokI} {o:List Nd} (h:RSt m B b w L i F o) (h0:i<=j) (h1:j<=L.length) :
  RSt m B b (w.setCell ⟨b,1,none⟩ (.int .i64 j)) L j F o:=by
 obtain ⟨tv,nv,k1,k2,k3⟩:=h.ex;have hB:Below B w (w.setCell ⟨b,1,none⟩ (.int .i64 j)):=Zb.setCell h.base _;have:=h.ol;exact ⟨⟨tv,nv,heap_setCell_same _ _ 1 _ _ _ k1,k2.below hB,Qa6 k3 _ _ (Qeh k3 k1)⟩,h.base,Nat.le_trans h.size hB.size,h.syn.below hB h.hund,h.hund,h.good,h1,h.f0,h.f1,by omega⟩
theorem Qiz (m:Int) (B b i:Nat) (w:World) (L:List TokI) (o:List Nd) (h:RSt m B b w L i (-1) o) :
  Calls Tryz.prog 140 #[.pointer (some ⟨b,0,none⟩)] w fun e w'=>e = .returned (.tuple #[])/\RSt m B b w' L i i o/\Below B w w':=by
 have KEY:=Za (h.setF (G:=i) (by omega) (by have:=h.ix;omega));have HB:Hid (Below B w (w.setCell ⟨b,3,none⟩ (.int .i64 i))):=Za (Zb.setCell h.base _);obtain ⟨tv,nv,h1,h2,h3⟩:=h.ex;obtain ⟨c0,c1,c2,c3⟩:=Qaa h1;have f3:=Qay h1 3;clear h2 h3 h1 h;go_enter Tryz.func140,Tryz.ntmps140;go_wp2_with fail;go_end0;exact ⟨rfl,KEY.out,HB.out⟩
theorem Qoi (m F:Int) (B b i:Nat) (w:World) (L:List TokI) (o:List Nd) (h:RSt m B b w L i F o) (hF:0<=F) :
  Calls Tryz.prog 140 #[.pointer (some ⟨b,0,none⟩)] w fun e w'=>e = .returned (.tuple #[])/\w=w':=by
 obtain ⟨tv,nv,h1,h2,h3⟩:=h.ex;obtain ⟨c0,c1,c2,c3⟩:=Qaa h1;have hF2:¬ F<0:=by omega
 clear h2 h3 h1 h;go_enter Tryz.func140,Tryz.ntmps140;go_wp2_with fail;go_end0;exact ⟨rfl,rfl⟩
theorem QiA (m F k:Int) (B b i:Nat) (w:World) (L:List TokI) (o:List Nd) (h:RSt m B b w L i F o) (hF:0<=F) :
  Calls Tryz.prog 203 #[.pointer (some ⟨b,0,none⟩),.int .i64 k] w fun e w'=>e = .returned (.tuple #[])/\w=w':=by
 have HF:=Za (Qoi m F B b i w L o h hF);obtain ⟨tv,nv,h1,h2,h3⟩:=h.ex;obtain ⟨c0,c1,c2,c3⟩:=Qaa h1;have hF2:F>=0:=by omega
 clear h2 h3 h1 h;go_enter Tryz.func203,Tryz.ntmps203;go_wp2_with fail;((with_reducible refine HF.out.mono ?_));rintro e w1 ⟨rfl,rfl⟩;go_wp2_with fail;(try simp only [Exit.inBlock,Exit.then]);refine bodyPost_ret (results_none rfl _ _ _) rfl ?_;exact ⟨rfl,rfl⟩
theorem Qu4 (m k:Int) (B b i:Nat) (w:World) (L:List TokI) (o:List Nd) (h:RSt m B b w L i (-1) o) (hL:L.length<=1000000) (hk0:k≠0) (hk:atT k (L.drop i)=false) :
  Calls Tryz.prog 203 #[.pointer (some ⟨b,0,none⟩),.int .i64 k] w fun e w'=>e = .returned (.tuple #[])/\RSt m B b w' L i i o/\Below B w w':=by
 have HF:=Za (fun n=>Qiz m B b i (w.drewN n) L o (h.below (below_drewN Zb n)));have HK:=Za (Qfs m (-1) B b i w L o h hL);obtain ⟨tv,nv,h1,h2,h3⟩:=h.ex;obtain ⟨c0,c1,c2,c3⟩:=Qaa h1;rw [<- QgO k hk0] at hk;generalize QeN (L.drop i)=z at *;have hz:(z != k)=true:=by rw [bne,hk];rfl
 clear h2 h3 h1 h hk;go_enter Tryz.func203,Tryz.ntmps203;go_wp2_with fail;((with_reducible refine HK.out.mono ?_));rintro e w1 ⟨rfl,n,rfl⟩;go_wp2_with fail;((with_reducible refine (HF.out n).mono ?_));rintro e w1 ⟨rfl,hb,hB⟩;have HB:=Za hb;have HL:Hid (Below B w w1):=Za ((below_drewN Zb n).trans hB);clear hb hB;go_wp2_with fail;(try simp only [Exit.inBlock,Exit.then]);refine bodyPost_ret (results_none rfl _ _ _) rfl ?_;exact ⟨rfl,HB.out,HL.out⟩
theorem Qk2 (m k:Int) (B b i:Nat) (w:World) (L:List TokI) (o:List Nd) (h:RSt m B b w L i (-1) o) (hL:L.length<=1000000) (hk0:k≠0) (hk:atT k (L.drop i)=true) :
  Calls Tryz.prog 203 #[.pointer (some ⟨b,0,none⟩),.int .i64 k] w fun e w'=>e = .returned (.tuple #[])/\RSt m B b w' L (i+1) (-1) o/\Below B w w':=by
 have HK:=Za (Qfs m (-1) B b i w L o h hL);have hi:=QcK hk;rw [List.length_drop] at hi;have KEY:=Za (fun n=>(h.below (below_drewN Zb n)).setI (j:=i+1) (by omega) (by omega));have HB:Hid (∀ n,Below B w ((w.drewN n).setCell ⟨b,1,none⟩ (.int .i64 (i+1:Nat)))):=Za (fun n=>(below_drewN Zb n).setCell h.base _);rw [show ((i+1:Nat):Int)=(i:Int)+1 by omega] at KEY HB;obtain ⟨tv,nv,h1,h2,h3⟩:=h.ex;obtain ⟨c0,c1,c2,c3⟩:=Qaa h1;have f1:=Qay h1 1;rw [<- QgO k hk0] at hk;generalize QeN (L.drop i)=z at *;have hz:(z != k)=false:=by rw [bne,hk];rfl
 clear h2 h3 h1 h hk;go_enter Tryz.func203,Tryz.ntmps203;go_wp2_with fail;((with_reducible refine HK.out.mono ?_));rintro e w1 ⟨rfl,n,rfl⟩;go_wp2_with fail;go_end0;exact ⟨rfl,KEY.out n,HB.out n⟩
end
section
open Go.RowKit
attribute [local go_sem] ByteArray.mk_append_mk Qac Qad Qae
attribute [local go_sem] SameB.some SameB.all
theorem RSt.grown {m F:Int} {B b i:Nat} {w w':World} {L:List TokI} {o o':List Nd} {tv nv u:Value} (h:RSt m B b w L i F o) (hb:w.heap[b]?=some (Qeg tv i nv F)) (ht:TokB w B tv L) (hn:NodesI w B nv o) (hg:w.grownBy w' nv.ownBlock) (hu:NodesI w' B u o') (hol:(o'.length:Int)<=i+F+1) :
  RSt m B b (w'.setCell ⟨b,2,none⟩ u) L i F o'/\Below B w (w'.setCell ⟨b,2,none⟩ u):=by
 have hB:Below B w w':=Zb.grown hg h.size (fun k hk=>Qap hn hk);have h1:w'.heap[b]?=some (Qeg tv i nv F):=(hg.block b (lt_of_block hb) (fun e=>Qeh hn hb e.symm)).trans hb;have hB2:Below B w' (w'.setCell ⟨b,2,none⟩ u):=Zb.setCell h.base _;refine ⟨⟨⟨tv,u,heap_setCell_same _ _ 2 _ _ _ h1,ht.below (hB.trans hB2),Qa6 hu _ _ (Qeh hu h1)⟩,h.base,Nat.le_trans h.size (hB.trans hB2).size,h.syn.below (hB.trans hB2) h.hund,h.hund,h.good,h.ix,h.f0,h.f1,hol⟩,hB.trans hB2⟩
set_option maxRecDepth 100000 in
theorem Qu5 (m F:Int) (B b i:Nat) (k n p:Int) (s:List UInt8) (w:World) (r:List TokI) (o:List Nd) (h:RSt m B b w r i F o) (hl:o.length<=900000) (hol:(o.length:Int)<=i+F) :
  Calls Tryz.prog 141 #[.pointer (some ⟨b,0,none⟩),QbB k n s p] w fun e w'=>e = .returned (.int .i64 o.length)/\RSt m B b w' r i F (o++[⟨k,n,s,p⟩])/\Below B w w':=by
 have H0:=Za (h.alloc (Qaj k n s p));have HN0:=Za (heap_alloc_new w (Qaj k n s p));have HB0:Hid (Below B w (w.alloc (Qaj k n s p))):=Za (Zb.alloc h.size _);obtain ⟨tv,nv,h1,h2,h3⟩:=h.ex;obtain ⟨na,nc,rfl⟩:=h3.form;have hal:Below w.heap.size w (w.alloc (Qaj k n s p)):=Zb.alloc Zc _;have HP1:=Za (Qab h1 hal);have HT1:=Za (h2.below (hal.mono h.size));have HO1:=Za (h3.below hal);have HNE:Hid (∀ g,(Value.slice na o.length nc).ownBlock=some g->g<w.heap.size):=Za (fun g hg=>QhG h3 hg);clear h h1 h2 h3 hal;unfold QbB;go_enter Tryz.func141,Tryz.ntmps141;go_upto_region 1 with fail;obtain ⟨P,hP⟩:∃ P,w.heap.size=P:=⟨_,rfl⟩;rw [hP] at HN0 HNE;simp only [hP];generalize w.alloc (Qaj k n s p)=W at *;have k0:∀ x,SameB W b P x->x.cell? ⟨b,2,none⟩=some (.slice na o.length nc):=fun x hx=>(Qaa (hx.1.trans HP1.out)).2.2.1;have q0:∀ x,SameB W b P x->x.cell? ⟨P,0,none⟩=some (.int .i64 k):=fun x hx=>(Qaa (hx.2.trans HN0.out)).1;have q1:∀ x,SameB W b P x->x.cell? ⟨P,1,none⟩=some (.int .u64 n):=fun x hx=>(Qaa (hx.2.trans HN0.out)).2.1;have q2:∀ x,SameB W b P x->x.cell? ⟨P,2,none⟩=some (.string ⟨s.toArray⟩):=fun x hx=>(Qaa (hx.2.trans HN0.out)).2.2.1;have q3:∀ x,SameB W b P x->x.cell? ⟨P,3,none⟩=some (.int .i64 p):=fun x hx=>(Qaa (hx.2.trans HN0.out)).2.2.2;have HPL:Hid (P<W.heap.size):=Za (lt_of_block HN0.out);have HBL:Hid (b<W.heap.size):=Za (lt_of_block HP1.out);clear hP;refine QaI (SameB W b P) 8 [.reads [0,1,2,3,4,5],.act 6,.act 7,.act 8,.act 9,.act 10] (by kernel_rfl) (by kernel_rfl) (by kernel_rfl) (by kernel_rfl) (by kernel_rfl) (fun _ _ d _ _ h=>by cases d<;>exact h) ⟨rfl,rfl⟩ ?_;refine Qas ?_;simp only [Qaf,pQ1,pQ2,pQ3,pQ4,pQ5,pQ6]
 repeat (go_big_quiet_step (first|(intro hb;rw [k0 _ hb];exact ⟨rfl,rfl⟩)|(intro hb;rw [q0 _ hb];simp only [Result.andThen];rw [q1 _ hb];simp only;rw [q2 _ hb];simp only;rw [q3 _ hb];exact ⟨rfl,rfl⟩)))
 refine wpQuiet_nil ?_;refine Qai rfl ?_;simp only [Qaf,pQ1,pQ2,pQ3,pQ4,pQ5,pQ6];go_wp2_with fail;have hg1:Grows W (W.alloc (Qaj k n s p)).drew:=Below.drew (Zb.alloc Zc _);have H1:=Za (H0.out.below hg1);have HP2:=Za (Qab HP1.out hg1);have HPP:=Za (Qab HN0.out hg1);have HT2:=Za (HT1.out.below (hg1.mono H0.out.size));have HO2:=Za (HO1.out.below hg1);have HNN:Hid ((W.alloc (Qaj k n s p)).drew.heap[W.heap.size]?=some (Qaj k n s p)):=Za (heap_alloc_new W _);have HB2:Hid (Below B w (W.alloc (Qaj k n s p)).drew):=Za (HB0.out.trans (hg1.mono H0.out.size));refine ⟨fun _=>⟨hg1.block b HBL.out,hg1.block P HPL.out⟩,?_⟩;have HS2:Hid (SameB W b P (W.alloc (Qaj k n s p)).drew):=Za ⟨hg1.block b HBL.out,hg1.block P HPL.out⟩;generalize (W.alloc (Qaj k n s p)).drew=V at *;clear hg1 H0 HN0 HP1 HT1 HO1 HB0 k0 q0 q1 q2 q3;refine Qai rfl ?_;simp only [Qaf,pQ1,pQ2,pQ3,pQ4,pQ5,pQ6];go_wp2_with (at_builtin;refine Qb7 rfl _ _ rfl B _ o rfl HO2.out W.heap.size ⟨k,n,s,p⟩ rfl HNN.out (by omega) H1.out.size ?_;intro v2 w2 ho hg;obtain ⟨a2,c2,rfl⟩:=NodesI.form ho;have HO3:=Za ho;have HG3:=Za hg;clear ho hg);refine ⟨fun _=>⟨(HG3.out.block b (lt_of_block HP2.out) (fun e=>Qeh HO2.out HP2.out e.symm)).trans HS2.out.1,(HG3.out.block P (lt_of_block HPP.out) (fun e=>absurd (HNE.out P e.symm) (Nat.lt_irrefl _))).trans HS2.out.2⟩,?_⟩;refine Qai rfl ?_;simp only [Qaf,pQ1,pQ2,pQ3,pQ4,pQ5,pQ6];go_wp2_with fail;refine ⟨fun h=>absurd h (by decide),?_⟩;refine Qai rfl ?_;simp only [Qaf,pQ1,pQ2,pQ3,pQ4,pQ5,pQ6];go_wp2_with fail;refine ⟨fun h=>absurd h (by decide),?_⟩;refine Qai rfl ?_;simp only [Qaf,pQ1,pQ2,pQ3,pQ4,pQ5,pQ6];have hb3:=(HG3.out.block b (lt_of_block HP2.out) (fun e=>Qeh HO2.out HP2.out e.symm)).trans HP2.out;have f3:=Qay hb3 2;have c3:=(Qaa hb3).2.2.1;clear hb3;go_wp2_with fail;refine ⟨fun h=>absurd h (by decide),Qbb ?_⟩;obtain ⟨hr,hlw⟩:=H1.out.grown HP2.out HT2.out HO2.out HG3.out HO3.out (by simp only [List.length_append,List.length_cons,List.length_nil];omega);have HR:=Za hr;have HL:=Za hlw;have hb9:=(HG3.out.block b (lt_of_block HP2.out) (fun e=>Qeh HO2.out HP2.out e.symm)).trans HP2.out;have c9:=(Qaa (heap_setCell_same _ _ 2 _ _ (.slice a2 (o++[(⟨k,n,s,p⟩:Nd)]).length c2) hb9)).2.2.1;clear c3 f3 hr hlw HG3 HO3 HP2 HT2 HO2 H1 HPP HNN HS2 hb9;obtain ⟨O,hO⟩:∃ O,o++[(⟨k,n,s,p⟩:Nd)]=O:=⟨_,rfl⟩;have hOl:O.length=o.length+1:=by rw [<- hO];simp
 rw [hO] at HR HL c9;rw [hOl] at HR HL c9;have HO:=Za hO;clear hO hOl;generalize w2.setCell ⟨b,2,none⟩ (.slice a2 (o.length+1) c2)=W9 at *;go_wp2_with fail;go_ret;exact ⟨rfl,by rw [HO.out];exact HR.out,HB2.out.trans HL.out⟩
end
end Go.Proofs.YtoohondkpddmcaaGreatDoor
