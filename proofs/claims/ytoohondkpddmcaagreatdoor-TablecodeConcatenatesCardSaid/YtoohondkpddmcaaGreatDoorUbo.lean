/- Mw -/
import Derived.Test.YtoohondkpddmcaaGreatDoorUzz
import Derived.Test.YtoohondkpddmcaaGreatDoorUbm
import Derived.Test.YtoohondkpddmcaaGreatDoorUbn
namespace Go.Proofs.YtoohondkpddmcaaGreatDoor
set_option maxHeartbeats 32000000
set_option linter.unusedVariables false
set_option linter.unusedSimpArgs false
open Go.RowKit
attribute [local go_sem] ByteArray.mk_append_mk Qac Qad Qae
theorem IArg.belowW {w w':World} {v:Value} {l:List Int} (h:IArg w v l) (hb:Below w.heap.size w w'):IArg w' v l:=by
 obtain ⟨a,cap,hv,hl,hc,hx⟩:=h;refine ⟨a,cap,hv,hl,fun hn=>?_,hx⟩;obtain ⟨b,off,ha,hk⟩:=hc hn;exact ⟨b,off,ha,fun k hkl=>(hb.cell (p:=⟨b,off+k,none⟩) (World.block_lt_of_cell? w _ (hk k hkl))).trans (hk k hkl)⟩
theorem Qfz {p:List Nd} (hv:QaS p=true) (hg:∀ t∈p,NdG t):QcS p=(Qbe p p.length 0,0):=by
 have:=(Qfy hv hg).2;unfold QcS;rw [if_neg (by rw [hv];decide),if_neg (by omega)]
set_option maxRecDepth 100000 in
theorem Qp4 (l1 l2:List Int) (v1 v2:Value) (m:Int) (W:World) (h1:IArg W v1 l1) (h2:IArg W v2 l2) (hm:SynG m W) :
  Calls Tryz.prog 9 #[v1,v2] W fun e w'=>e = .returned (.bool true)/\Below W.heap.size W w':=by
 have HM0:=Za hm;have HPR:=Za (QeQ v1 l1 W h1);have HP2:=Za (fun w (hb:Below W.heap.size W w)=>QeQ v2 l2 w (h2.belowW hb));unfold QgU at HPR HP2;obtain ⟨ia,ic,rfl,_⟩:=h1;obtain ⟨ja,jc,rfl,_⟩:=h2;obtain ⟨A,hA⟩:∃ A,W.heap.size=A:=⟨_,rfl⟩;have HLOW:=Za HM0.out.low;have hAw:A<=W.heap.size:=Nat.le_of_eq hA.symm;rw [hA] at HPR HP2 HLOW |-;obtain ⟨IL,hIL⟩:∃ L,l1.length=L:=⟨_,rfl⟩;obtain ⟨JL,hJL⟩:∃ L,l2.length=L:=⟨_,rfl⟩;rw [hIL] at HPR |-;rw [hJL] at HP2 |-;clear hm hA hIL hJL;go_enter Tryz.func9,Tryz.ntmps9;go_wp2_with fail;((with_reducible refine HPR.out.mono ?_));rintro e w1 ⟨v,p,rfl,hn,hg,hv,hb⟩;have HN1:=Za hn;have HG1:=Za hg;have HV1:=Za hv.1;have HB1:=Za hb;have HC2:=Za (HP2.out w1 hb);obtain ⟨pa,pc,rfl⟩:=hn.form;clear hn hg hv hb HPR HP2;go_wp2_with fail;((with_reducible refine HC2.out.mono ?_));rintro e w2 ⟨v,q,rfl,hn,hg,hv,hb⟩;have HN2:=Za hn;have HG2:=Za hg;have HV2:=Za hv.1;have HB2:=Za (Qah HB1.out hAw hb);have HP2:=Za (HN1.out.below hb);obtain ⟨qa,qc,rfl⟩:=hn.form;clear hn hg hv hb HC2 HN1;have hpl:=Qd8 HV1.out;have hql:=Qd8 HV2.out;have HGA:Hid (∀ t∈p++q,NdG t):=Za (fun t ht=>by
  rcases List.mem_append.1 ht with h|h
  ·exact HG1.out t h
  ·exact HG2.out t h)
 have HCA:=Za (Qhj m p _ 0 (Za (Qfz HV1.out HG1.out)) _ w2 (HP2.out.slG HG1.out) (HM0.out.below HB2.out HLOW.out) (NdG.nds HG1.out) (by omega));have HFA:=(Qfy HV1.out HG1.out).2;have HFB:=(Qfy HV2.out HG2.out).2;have HCB:=Za (fun w (hb:Below A W w) (hn:NodesI w w1.heap.size (.slice qa q.length qc) q)=>Qhj m q _ 0 (Za (Qfz HV2.out HG2.out)) _ w (hn.slG HG2.out) (HM0.out.below hb HLOW.out) (NdG.nds HG2.out) (by omega));have HCC:=Za (fun w (hb:Below A W w) B v (hn:NodesI w B v (p++q))=>Qop m (p++q) v w (hn.slG HGA.out) (HM0.out.below hb HLOW.out) (NdG.nds HGA.out) (by rw [List.length_append];omega));have HCAT:Hid (p.length+q.length<=2048->QcS (p++q)=(Qbe p p.length 0++Qbe q q.length 0,0)):=Za (fun h=>by
  obtain ⟨c1,c2⟩:=QvE p q HV1.out HV2.out h;rw [Qfz c1 HGA.out,c2])
 obtain ⟨EA,hEA⟩:∃ z,Qbe p p.length 0=z:=⟨_,rfl⟩;obtain ⟨EB,hEB⟩:∃ z,Qbe q q.length 0=z:=⟨_,rfl⟩;obtain ⟨C,er,hCE⟩:∃ C er,QcS (p++q)=(C,er):=⟨_,_,rfl⟩;rw [hEA] at HCA HFA HCAT;rw [hEB] at HCB HFB HCAT;rw [hCE] at HCC HCAT;clear hEA hEB hCE;obtain ⟨PL,hPL⟩:∃ n,p.length=n:=⟨_,rfl⟩;obtain ⟨QL,hQL⟩:∃ n,q.length=n:=⟨_,rfl⟩;have HPL:=Za hPL;have HQL:=Za hQL;rw [hPL] at HCA HP2 hpl HCAT |-;rw [hQL] at HCB HN2 hql HCAT |-;clear hPL hQL;go_wp2_with fail;((with_reducible refine HCA.out.mono ?_));rintro e w3 ⟨rfl,hb⟩;have HB3:=Za (Qah HB2.out hAw hb);have HP3:=Za (HP2.out.below hb);have HN3:=Za (HN2.out.below hb);have HCB3:=Za (HCB.out w3 HB3.out HN3.out);clear hb HCA HP2 HN2 HCB HB2;go_wp2_with fail;((with_reducible refine HCB3.out.mono ?_));rintro e w4 ⟨rfl,hb⟩;have HB4:=Za (Qah HB3.out hAw hb);have HP4:=Za (HP3.out.below hb);have HN4:=Za (HN3.out.below hb);clear hb HP3 HN3 HCB3 HB3;have hPI:(PL:Int)<=2048:=by omega
 have hQI:(QL:Int)<=2048:=by omega
 go_wp2_with (at_builtin;first|(refine Qaq rfl _ _ rfl w4.heap.size (.slice none 0 0) [] rfl (NodesI.nil _ _) _ _ p rfl HP4.out (by rw [HPL.out];simp;omega) Zc ?_;intro v5 w5 ho hg;rw [List.nil_append] at ho;have HO5:=Za ho;have hb5:Below w4.heap.size w4 w5:=Zb.grown hg Zc (fun k hk=>Qap (NodesI.nil w4 w4.heap.size) hk);have HB5:=Za hb5;have HN5:=Za (HN4.out.below hb5);clear ho hg hb5)|(refine Qaq rfl _ _ rfl w4.heap.size v5 p rfl HO5.out _ _ q rfl HN5.out (by rw [HPL.out,HQL.out];omega) HB5.out.size ?_;intro v6 w6 ho hg;have HO6:=Za ho;have HB6:Hid (Below w4.heap.size w4 w6):=Za (HB5.out.trans ((Below.refl w4.heap.size w5).grown hg HB5.out.size (fun k hk=>Qap HO5.out hk)));clear ho hg));have HBW:=Za (Qah HB4.out hAw HB6.out);have HC:=Za (HCC.out w6 HBW.out _ v6 HO6.out);((with_reducible refine HC.out.mono ?_));rintro e w7 ⟨rfl,hb⟩;have HB7:=Za (Qah HBW.out hAw hb);have HAW:=Za (Qcq m w7 (HM0.out.below HB7.out HLOW.out));clear hb HC HBW HB6 HO6 HO5 HB5 HN5 HB4 HP4 HN4;by_cases h:PL+QL<=2048
 ·have h':¬ (PL:Int)+(QL:Int)>2048:=by omega
  obtain ⟨hc,he⟩:C=EA++EB/\er=0:=by
   have:=HCAT.out h;injection this with a b;exact ⟨a,b⟩
  subst hc he;clear h HCAT HCC;have hab:(EA++EB).length<=200000:=by rw [List.length_append];omega
  go_wp2_with fail;((with_reducible refine HAW.out.mono ?_));rintro e w8 ⟨rfl,hb8⟩;have HB8:=Za (Qah HB7.out hAw hb8);clear hb8 HAW;go_wp2_with fail;go_ret;exact ⟨by first|rfl|(simp;done),HB8.out⟩
 ·have h':(PL:Int)+(QL:Int)>2048:=by omega
  clear h HCAT HCC;go_wp2_with fail;((with_reducible refine HAW.out.mono ?_));rintro e w8 ⟨rfl,hb8⟩;have HB8:=Za (Qah HB7.out hAw hb8);clear hb8 HAW;go_wp2_with fail;go_ret;exact ⟨rfl,HB8.out⟩
end Go.Proofs.YtoohondkpddmcaaGreatDoor
