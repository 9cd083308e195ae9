/- Mv -/
import Derived.Test.YtoohondkpddmcaaGreatDoorUzz
import Derived.Test.YtoohondkpddmcaaGreatDoorUbm
import Derived.Test.YtoohondkpddmcaaGreatDoorUca
import Derived.Test.YtoohondkpddmcaaGreatDoorUat
namespace Go.Proofs.YtoohondkpddmcaaGreatDoor
set_option maxHeartbeats 32000000
set_option linter.unusedVariables false
set_option linter.unusedSimpArgs false
open Go.RowKit
attribute [local go_sem] ByteArray.mk_append_mk Qac Qad Qae
abbrev QlD (s t:List UInt8):Obj:=.cells #[.string ⟨s.toArray⟩,.string ⟨t.toArray⟩] 9 (0,0)
set_option maxRecDepth 100000 in
theorem QlR (s:List UInt8) (l:List Int) (v0:Value) (at_:Int) (c:Nat) (m:Int) (W:World) (hl:IArg W v0 l) (hc:c<=255) (hs:s.length<=140737488351232) (hm:SynG m W) :
  Calls Tryz.prog 6 #[.string ⟨s.toArray⟩,v0,.int .i64 at_,.int .u8 c] W fun e w'=>e = .returned (.bool true)/\Below W.heap.size W w':=by
 have HM0:=Za hm;have HPR:=Za (QeQ v0 l W hl);unfold QgU at HPR;obtain ⟨ia,ic,rfl,_⟩:=hl;obtain ⟨A,hA⟩:∃ A,W.heap.size=A:=⟨_,rfl⟩;have HLOW:=Za HM0.out.low;have hAw:A<=W.heap.size:=Nat.le_of_eq hA.symm;rw [hA] at HPR HLOW |-;obtain ⟨IL,hIL⟩:∃ L,l.length=L:=⟨_,rfl⟩;rw [hIL] at HPR |-;clear hm hA hIL;go_enter Tryz.func6,Tryz.ntmps6;go_wp2_with fail;((with_reducible refine HPR.out.mono ?_));rintro e w1 ⟨v,ns,rfl,hn,hg,hv,hb⟩;have HC:=Za (Qmx ns v w1 (hn.slG hg) (NdG.nds hg) (by have:=Qd8 hv.1;omega));have hcl:=QmI ns;obtain ⟨qa,qc,rfl⟩:=hn.form;obtain ⟨T,hT⟩:∃ T,(QcS ns).1=T:=⟨_,rfl⟩;obtain ⟨er,her⟩:∃ z,(QcS ns).2=z:=⟨_,rfl⟩;rw [hT,her] at HC;rw [hT] at hcl;obtain ⟨NL,hNL⟩:∃ F,ns.length=F:=⟨_,rfl⟩;rw [hNL] at HC |-;have HB1:=Za hb;clear hn hg hv hb hT her hNL HPR;go_wp2_with fail;((with_reducible refine HC.out.mono ?_));rintro e w2 ⟨rfl,hb2⟩;have HB2:=Za (Qah HB1.out hAw hb2);have HM2:=Za (HM0.out.below HB2.out HLOW.out);clear hb2 HC HB1;go_upto_if 26 with fail;go_cut [9] (fun z wx=>∃ t:List UInt8,z = .string ⟨t.toArray⟩/\t.length<=70000/\Hid (Below A W wx/\SynG m wx))
 case first =>
  by_cases hT0:T=[]
  ·subst hT0;go_wp2_with fail;go_meet;exact ⟨_,rfl,by simp,Za ⟨HB2.out,HM2.out⟩⟩
  ·have hTp:0<T.length:=List.length_pos_iff.2 hT0;have hTi:(0:Int)<(T.length:Int):=by omega
   have hne:T.isEmpty=false:=by simpa using hT0
   rw [show (!T.isEmpty)=true by rw [hne];rfl];obtain ⟨K,hK⟩:∃ K:Nat,Qij at_ (T.length:Int)=K:=⟨(Qij at_ (T.length:Int)).toNat,by rw [Int.toNat_of_nonneg (QdC _ _ hTi)]⟩;have hKT:K<T.length:=by have:=Qik at_ (T.length:Int) hTi;omega
   have HMD:=Za (Qj0 at_ (T.length:Int) w2 hTi (by omega));rw [hK] at HMD;clear hK;go_wp2_with fail;((with_reducible refine HMD.out.mono ?_));rintro e w3 ⟨rfl,rfl⟩;clear HMD;have hKi:(K:Int)<(T.length:Int):=by omega
   have hKi2:(K:Int)+1<=(T.length:Int):=by omega
   go_upto_region 4 with fail;refine QaI (Grows w2) 12 [.reads [0,1,2,3,7,8,9,10],.act 4,.act 5,.act 6,.act 11,.act 12] (by kernel_rfl) (by kernel_rfl) (by kernel_rfl) (by kernel_rfl) (by kernel_rfl) (fun _ _ d _ _ h=>by cases d<;>exact h) (Grows.self _) ?_;refine Qas ?_;simp only [Qaf,pQ1,pQ2,pQ3,pQ4,pQ5,pQ6]
   repeat (go_big_quiet_step (fail))
   refine wpQuiet_nil ?_;refine Qai rfl ?_;simp only [Qaf,pQ1,pQ2,pQ3,pQ4,pQ5,pQ6];go_wp2_with fail;have hg1:Grows w2 (w2.alloc (.cells #[.int .u8 (c:Int)] 5 (0,0))).drew:=Below.drew (Zb.alloc Zc _);have HBV:=Za (Qah HB2.out hAw hg1);have HBY:=Za ((Qi3 w2 (C:=c) (by omega)).below (below_drewN Zb 1));refine ⟨fun _=>hg1,?_⟩;have HG1:=Za hg1;obtain ⟨Z,hZ⟩:∃ Z,w2.heap.size=Z:=⟨_,rfl⟩;rw [hZ] at HBY;(try simp only [hZ]);have HV:Hid (Bytes (w2.alloc (.cells #[.int .u8 (c:Int)] 5 (0,0))).drew 0 (.slice (some ⟨Z,0,none⟩) 1 1) [UInt8.ofNat c]):=HBY;generalize (w2.alloc (.cells #[.int .u8 (c:Int)] 5 (0,0))).drew=V at HBV HG1 HV |-;clear hg1 hZ HBY;have hcv:=HV.out.conv;refine Qai rfl ?_;simp only [Qaf,pQ1,pQ2,pQ3,pQ4,pQ5,pQ6];go_wp2_with fail;refine ⟨fun _=>HG1.out,?_⟩;refine Qai rfl ?_;simp only [Qaf,pQ1,pQ2,pQ3,pQ4,pQ5,pQ6];go_wp2_with fail;refine ⟨fun _=>HG1.out,?_⟩;refine Qai rfl ?_;simp only [Qaf,pQ1,pQ2,pQ3,pQ4,pQ5,pQ6];go_wp2_with fail;refine ⟨fun _=>HG1.out,?_⟩;refine Qai rfl ?_;simp only [Qaf,pQ1,pQ2,pQ3,pQ4,pQ5,pQ6];go_wp2_with fail;refine ⟨fun h=>absurd h (by decide),Qbb ?_⟩;go_wp2_with fail;go_meet;exact ⟨_,rfl,by simp only [List.length_append,List.length_take,List.length_drop,List.length_cons,List.length_nil];omega,Za ⟨HBV.out,HM0.out.below HBV.out HLOW.out⟩⟩
 case rest =>
  obtain ⟨t,rfl,htl,HS⟩:=hcut;obtain ⟨w5,rfl⟩:∃ y:World,y=wc:=⟨_,rfl⟩;clear HB2 HM2 hcl;have hal:Below w5.heap.size w5 (w5.alloc (QlD s t)):=Zb.alloc Zc _;have HB5:=Za (Qah HS.out.1 hAw hal);have HN5:=Za (heap_alloc_new w5 (QlD s t));obtain ⟨Q,hQ⟩:∃ Q,w5.heap.size=Q:=⟨_,rfl⟩;rw [hQ] at HN5;go_upto_region 6 with fail;(try simp only [hQ]);generalize w5.alloc (QlD s t)=w6 at HB5 HN5 |-;clear hal hQ HS;have hst:s.length<=140737488551232:=by omega
  go_wp2_with fail;go_loopw [13] (fun z wr=>∃ q:Nat,z = .int .i64 q/\q<=2/\Hid (Below A W wr/\wr.heap[Q]?=some (QlD s t))) (fun z _=>2-(intOf z).toNat)
  case atStart=>exact ⟨0,rfl,by omega,Za ⟨HB5.out,HN5.out⟩⟩
  case round =>
   obtain ⟨q,rfl,hq,HR⟩:=hrel;obtain ⟨w7,rfl⟩:∃ y:World,y=wr:=⟨_,rfl⟩;clear HB5 HN5;by_cases hlt:q<2
   ·obtain ⟨x,hx⟩:∃ x,(if q=0 then s else t)=x:=⟨_,rfl⟩;have hxl:x.length<=140737488551232:=by rw [<- hx];split<;>omega
    have HCX:Hid (w7.cell? ⟨Q,q,none⟩=some (.string ⟨x.toArray⟩)):=Za (by
     rcases (show q=0\/q=1 by omega) with rfl|rfl
     ·rw [cell_of_row w7 Q 0 _ _ _ HR.out.2,<- hx];rfl
     ·rw [cell_of_row w7 Q 1 _ _ _ HR.out.2,<- hx];rfl)
    have hcx:=HCX.out;have hlt':(q:Int)<2:=by omega
    obtain ⟨ns,i,er,hd⟩:∃ ns i er,Hid (QeV x=(ns,i,er)):=⟨_,_,_,Za rfl⟩;have HDI:=Za (Qjd m x ns i er hd w7 (HM0.out.below HR.out.1 HLOW.out) (by omega));have HND:Hid (∀ n∈ns,NdD n):=Za (by have h:=QtJ x;rw [hd.out] at h;exact h);have HLN:Hid (ns.length<=2048):=Za (by have h:=QtK x;rw [hd.out] at h;exact h);have HQ7:Hid (w7.heap[Q]?=some (QlD s t)):=Za HR.out.2;clear hx hlt;go_wp2_with fail;((with_reducible refine HDI.out.mono ?_));rintro e w8 ⟨v8,rfl,hn8,hb8⟩;have HB8:=Za (Qah HR.out.1 hAw hb8);have HQ8:=Za (Qab HR.out.2 hb8);by_cases her:er=0
    ·subst her;have HCO:=Za (Qt7 hd.out).1;have HC:=Za (Qhj m ns x 0 HCO v8 w8 (hn8.sl (NdD.ok HND.out)) (HM0.out.below HB8.out HLOW.out) (fun n hn=>by have:=HND.out n hn;unfold NdD at this;omega) (by have:=HLN.out;omega));clear hn8 hb8 HDI hcx HR;go_wp2_with fail;((with_reducible refine HC.out.mono ?_));rintro e w9 ⟨rfl,hb9⟩;have HR9:Hid (Below A W w9/\w9.heap[Q]?=some (QlD s t)):=Za ⟨Qah HB8.out hAw hb9,Qab HQ8.out hb9⟩;have hcx9:w9.cell? ⟨Q,q,none⟩=some (.string ⟨x.toArray⟩):=by
      rw [cell_of_row w9 Q q _ _ _ HR9.out.2,<- cell_of_row w7 Q q _ _ _ HQ7.out];exact HCX.out
     clear hb9 HC HB8 HQ8;go_wp2_with fail;go_roundw
     case rel=>exact ⟨q+1,by go_num,by omega,HR9⟩
     case measure=>simp [intOf];omega
    ·have hne:(er != 0)=true:=by rw [bne_iff_ne];exact her
     have HR9:Hid (Below A W w8/\w8.heap[Q]?=some (QlD s t)):=Za ⟨HB8.out,HQ8.out⟩;clear hn8 hb8 HDI hcx HR her;go_wp2_with fail;go_roundw
     case rel=>exact ⟨q+1,by go_num,by omega,HR9⟩
     case measure=>simp [intOf];omega
   ·have hlt':¬ (q:Int)<2:=by omega
    have HAW:=Za (Qcq m w7 (HM0.out.below HR.out.1 HLOW.out));go_wp2_with fail;((with_reducible refine HAW.out.mono ?_));rintro e w8 ⟨rfl,hb8⟩;have HB8:=Za (Qah HR.out.1 hAw hb8);clear hb8 HAW;go_wp2_with fail;go_ret;exact ⟨rfl,HB8.out⟩
theorem QlE (s:List UInt8) (l:List Int) (v0:Value) (at_ c:Int) (m:Int) (W:World) (hl:IArg W v0 l) (h0:0<=c) (h1:c<=255) (hs:s.length<=140737488351232) (hm:SynG m W) :
  Calls Tryz.prog 6 #[.string ⟨s.toArray⟩,v0,.int .i64 at_,.int .u8 c] W fun e w'=>e = .returned (.bool true)/\Below W.heap.size W w':=by
 obtain ⟨k,rfl⟩:=Int.eq_ofNat_of_zero_le h0;exact QlR s l v0 at_ k m W hl (by omega) hs hm
end Go.Proofs.YtoohondkpddmcaaGreatDoor
