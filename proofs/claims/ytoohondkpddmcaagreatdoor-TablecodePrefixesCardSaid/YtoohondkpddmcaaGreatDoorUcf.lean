/- Mx -/
import Derived.Test.YtoohondkpddmcaaGreatDoorUzz
import Derived.Test.YtoohondkpddmcaaGreatDoorUbo
import Derived.Test.YtoohondkpddmcaaGreatDoorUce
namespace Go.Proofs.YtoohondkpddmcaaGreatDoor
set_option maxHeartbeats 32000000
set_option linter.unusedVariables false
set_option linter.unusedSimpArgs false
open Go.RowKit
attribute [local go_sem] ByteArray.mk_append_mk Qac Qad Qae
theorem Qjn:∀ (ks:List (List Nd)),(∀ k∈ks,∀ (o:Nat) (r:List Nd),QgX (o+1) (k++r)=QgX o r)->∀ (o:Nat) (r:List Nd),QgX (o+ks.length) (ks.flatten++r)=QgX o r
 | [],_,o,r=>rfl
 | k::ks,h,o,r=>by
   rw [List.flatten_cons,List.append_assoc,List.length_cons,<- Nat.add_assoc,h k (List.mem_cons_self ..)];exact Qjn ks (fun x hx=>h x (List.mem_cons_of_mem _ hx)) o r
theorem Tre.ends {h:Nat} {t:List Nd} (ht:Tre h t):∀ (o:Nat) (r:List Nd),QgX (o+1) (t++r)=QgX o r:=by
 induction ht with
 | flat h n ks hp hn hk ih =>
   intro o r;rw [List.cons_append,Qhs (by omega),show n.pos.toNat=ks.length by omega];exact Qjn ks (fun k hk2=>ih k hk2) o r
 | nest h n ks hp hk ih =>
   intro o r;rw [List.cons_append,Qhs (by omega),show n.pos.toNat=ks.length by omega];exact Qjn ks (fun k hk2=>ih k hk2) o r
theorem QwQ {p:List Nd} (hv:QaS p=true) (hne:p≠[]):Qbe p p.length 0≠[]:=by
 intro h;have hv2:=hv;unfold QaS at hv2;rw [Bool.and_eq_true,decide_eq_true_eq] at hv2;obtain ⟨g,j,_,hj,_,het⟩:=QiF (List.length_pos_iff.2 hne) hv2.2;rw [het] at h;have h0:=(List.append_eq_nil_iff.1 h).1;have:=Qnq hj;rw [h0] at this;simp at this
theorem Quc {h:Nat} {p:List Nd} (ht:Tre h p) (hv:QaS p=true) (hne:p≠[]):Qan p 32 false 68 0=some p.length:=by
 have hv2:=hv;unfold QaS at hv2;rw [Bool.and_eq_true,decide_eq_true_eq] at hv2;obtain ⟨g,j,_,hj,_,_⟩:=QiF (List.length_pos_iff.2 hne) hv2.2;have h1:=QlF p 32 false 68 0 j hj 0;have h2:=ht.ends 0 [];rw [List.append_nil] at h2;rw [List.drop_zero,QmR] at h1;rw [h1,QmR] at h2;injection h2 with h2;have h3:=Qau p 32 false 68 0 j hj;have h4:=congrArg List.length h2;rw [List.length_drop,List.length_nil] at h4;rw [hj,show j=p.length by omega]
set_option maxRecDepth 100000 in
theorem Qnu (l:List Int) (v0:Value) (at_:Int) (m:Int) (W:World) (hl:IArg W v0 l) (hm:SynG m W) :
  Calls Tryz.prog 8 #[v0,.int .i64 at_] W fun e w'=>e = .returned (.bool true)/\Below W.heap.size W w':=by
 have HM0:=Za hm;have HNW:=Za (Qno v0 l W hl);obtain ⟨ia,ic,rfl,_⟩:=hl;obtain ⟨A,hA⟩:∃ A,W.heap.size=A:=⟨_,rfl⟩;have HLOW:=Za HM0.out.low;have hAw:A<=W.heap.size:=Nat.le_of_eq hA.symm;rw [hA] at HNW HLOW |-;obtain ⟨IL,hIL⟩:∃ L,l.length=L:=⟨_,rfl⟩;rw [hIL] at HNW |-;clear hm hA hIL;go_enter Tryz.func8,Tryz.ntmps8;go_wp2_with fail;((with_reducible refine HNW.out.mono ?_));rintro e w1 ⟨rfl,hc1,hb1⟩;have HB1:=Za hb1;have HDE:=Za (QtW A w1 hc1);clear hc1 hb1 HNW;go_wp2_with fail;((with_reducible refine HDE.out.mono ?_));rintro e w2 ⟨v,rfl,hnv,hc2,hk2⟩;have HB2:=Za (HB1.out.trans (hk2.below (by have:=HB1.out.size;omega) Zc));obtain ⟨p,hn,hg,hlen,hne,htr⟩:=hnv;have HN2:=Za hn;have HG:=Za hg;have HTR:=Za htr;have HNE:=Za hne;have HSL:=Za (hn.slG hg);obtain ⟨qa,qc,rfl⟩:=hn.form;obtain ⟨vb,hvb⟩:∃ vb,Hid (QaS p=vb):=⟨_,Za rfl⟩;have HVL:=Za (Qfu p (fun t ht=>by have:=(hg t ht).1;omega) vb hvb _ w2 HSL.out (by omega));have HPE:Hid (p.length<=54533):=Za hlen;obtain ⟨PL,hPL⟩:∃ n,p.length=n:=⟨_,rfl⟩;have HPL:=Za hPL;rw [hPL] at HVL HSL |-;clear hn hg hlen hne htr hc2 hk2 HDE hPL HN2;cases vb with
 | false =>
   go_wp2_with fail;((with_reducible refine HVL.out.mono ?_));rintro e w3 ⟨rfl,hb3⟩;have HB3:=Za (Qah HB2.out hAw hb3);have HAW:=Za (Qcq m w3 (HM0.out.below HB3.out HLOW.out));clear hb3 HVL;go_wp2_with fail;((with_reducible refine HAW.out.mono ?_));rintro e w4 ⟨rfl,hb4⟩;have HB4:=Za (Qah HB3.out hAw hb4);clear hb4 HAW;go_wp2_with fail;go_ret;exact ⟨rfl,HB4.out⟩
 | true =>
   have hcf:=Qfz hvb.out HG.out;have hfit:=(Qfy hvb.out HG.out).2;have hod:=Quc HTR.out hvb.out HNE.out;have hone:=Qub hod rfl;have HNU:Hid (Qge p):=Za (fun t ht=>(HG.out t ht).2);have hpl2:=Qd8 hvb.out;have HCU:=fun (x y:List UInt8) (h:(Qak p 32 0).1=x++y) (hy:y≠[]) (hx:x≠[]) (hl:x.length<=65536)=>QvL HNU.out hpl2 hod h hy hx hl;have hpos:Qbe p p.length 0≠[]:=QwQ hvb.out HNE.out;rw [hone] at hfit hpos hcf;obtain ⟨E,hE⟩:∃ E,(Qak p 32 0).1=E:=⟨_,rfl⟩;rw [hE] at hfit hpos hcf HCU;have HCP:=Za (fun w (hb:Below A W w) (hs:NSl w (.slice qa PL qc) p)=>QoD p E 0 (Za hcf) _ w hs (NdG.nds HG.out) (by omega));have HC3:=Za HCU;clear hcf hod hone HCU hE HNU;have hEp:0<E.length:=List.length_pos_iff.2 hpos;have hEi:(0:Int)<(E.length:Int):=by omega
   go_wp2_with fail;((with_reducible refine HVL.out.mono ?_));rintro e w3 ⟨rfl,hb3⟩;have HB3:=Za (Qah HB2.out hAw hb3);have HC:=Za (HCP.out w3 HB3.out (HSL.out.below hb3));clear hb3 HVL HCP;go_wp2_with fail;((with_reducible refine HC.out.mono ?_));rintro e w4 ⟨rfl,hb4⟩;have HB4:=Za (Qah HB3.out hAw hb4);obtain ⟨K,hK⟩:∃ K:Nat,Qij at_ (E.length:Int)=K:=⟨(Qij at_ (E.length:Int)).toNat,by rw [Int.toNat_of_nonneg (QdC _ _ hEi)]⟩;have hKT:K<E.length:=by have:=Qik at_ (E.length:Int) hEi;omega
   have HMD:=Za (Qj0 at_ (E.length:Int) w4 hEi (by omega));rw [hK] at HMD;clear hK hb4 HC;go_wp2_with fail;((with_reducible refine HMD.out.mono ?_));rintro e w5 ⟨rfl,rfl⟩;clear HMD;have hKi:(K:Int)<=(E.length:Int):=by omega
   by_cases hK0:K=0
   ·subst hK0;have HDI:=Za (Qjd m [] [] 0 0 (Za QvM) w4 (HM0.out.below HB4.out HLOW.out) (by simp));rw [show (⟨([]:List UInt8).toArray⟩:ByteArray)=ByteArray.empty from rfl] at HDI;go_wp2_with fail;((with_reducible refine HDI.out.mono ?_));rintro e w6 ⟨v6,rfl,hn6,hb6⟩;obtain ⟨a6,c6,rfl⟩:=hn6.form;have HB6:=Za (Qah HB4.out hAw hb6);have HAW:=Za (Qcq m w6 (HM0.out.below HB6.out HLOW.out));clear hn6 hb6 HDI;go_wp2_with fail;((with_reducible refine HAW.out.mono ?_));rintro e w7 ⟨rfl,hb7⟩;have HB7:=Za (Qah HB6.out hAw hb7);clear hb7 HAW;go_wp2_with fail;go_ret;exact ⟨rfl,HB7.out⟩
   ·have hK1:((K:Int)==0)=false:=by rw [beq_eq_false_iff_ne];omega
    obtain ⟨q,hq⟩:=HC3.out (E.take K) (E.drop K) (List.take_append_drop K E).symm (by
     intro h;have:=congrArg List.length h;rw [List.length_drop,List.length_nil] at this;omega) (by
     intro h;have:=congrArg List.length h;rw [List.length_take,List.length_nil] at this;omega) (by rw [List.length_take];omega)
    have HDI:=Za (Qjd m (E.take K) [] q 4 (Za hq) w4 (HM0.out.below HB4.out HLOW.out) (by rw [List.length_take];omega));clear hq hK0 HC3;go_wp2_with fail;((with_reducible refine HDI.out.mono ?_));rintro e w6 ⟨v6,rfl,hn6,hb6⟩;obtain ⟨a6,c6,rfl⟩:=hn6.form;have HB6:=Za (Qah HB4.out hAw hb6);have HAW:=Za (Qcq m w6 (HM0.out.below HB6.out HLOW.out));clear hn6 hb6 HDI;go_wp2_with fail;((with_reducible refine HAW.out.mono ?_));rintro e w7 ⟨rfl,hb7⟩;have HB7:=Za (Qah HB6.out hAw hb7);clear hb7 HAW;go_wp2_with fail;go_ret;exact ⟨rfl,HB7.out⟩
end Go.Proofs.YtoohondkpddmcaaGreatDoor
