/- My -/
import Derived.Test.YtoohondkpddmcaaGreatDoorUzz
import Derived.Test.YtoohondkpddmcaaGreatDoorUbo
import Derived.Test.YtoohondkpddmcaaGreatDoorUbq
import Derived.Test.YtoohondkpddmcaaGreatDoorUbw
namespace Go.Proofs.YtoohondkpddmcaaGreatDoor
set_option maxHeartbeats 32000000
set_option linter.unusedVariables false
set_option linter.unusedSimpArgs false
open Go.RowKit
attribute [local go_sem] ByteArray.mk_append_mk Qac Qad Qae
set_option maxRecDepth 100000 in
theorem QlC (l:List Int) (v0:Value) (m:Int) (W:World) (hl:IArg W v0 l) (hm:SynG m W) :
  Calls Tryz.prog 5 #[v0] W fun e w'=>e = .returned (.bool true)/\Below W.heap.size W w':=by
 have HM0:=Za hm;have HPR:=Za (Qlz v0 l W hl);unfold Qj8 at HPR;obtain ⟨ia,ic,rfl,_⟩:=hl;obtain ⟨A,hA⟩:∃ A,W.heap.size=A:=⟨_,rfl⟩;have HLOW:=Za HM0.out.low;have hAw:A<=W.heap.size:=Nat.le_of_eq hA.symm;rw [hA] at HPR HLOW |-;obtain ⟨IL,hIL⟩:∃ L,l.length=L:=⟨_,rfl⟩;rw [hIL] at HPR |-;clear hm hA hIL;go_enter Tryz.func5,Tryz.ntmps5;go_wp2_with fail;((with_reducible refine HPR.out.mono ?_));rintro e w2 ⟨v,p,rfl,hn,hg,hlen,hb⟩;have HB2:=Za hb;have HG:=Za hg;have HSL:=Za (hn.slG hg);obtain ⟨qa,qc,rfl⟩:=hn.form;obtain ⟨vb,hvb⟩:∃ vb,Hid (QaS p=vb):=⟨_,Za rfl⟩;have HVL:=Za (Qfu p (fun t ht=>by have:=(hg t ht).1;omega) vb hvb _ w2 HSL.out (by omega));obtain ⟨PL,hPL⟩:∃ n,p.length=n:=⟨_,rfl⟩;have HPL:=Za hPL;rw [hPL] at HVL HSL |-;clear hn hg hlen hb HPR hPL;cases vb with
 | false =>
   go_wp2_with fail;((with_reducible refine HVL.out.mono ?_));rintro e w3 ⟨rfl,hb3⟩;have HB3:=Za (Qah HB2.out hAw hb3);have HAW:=Za (Qcq m w3 (HM0.out.below HB3.out HLOW.out));clear hb3 HVL;go_wp2_with fail;((with_reducible refine HAW.out.mono ?_));rintro e w4 ⟨rfl,hb4⟩;have HB4:=Za (Qah HB3.out hAw hb4);clear hb4 HAW;go_wp2_with fail;go_ret;exact ⟨rfl,HB4.out⟩
 | true =>
   have hcf:=Qfz hvb.out HG.out;have hfit:=(Qfy hvb.out HG.out).2;have hdc:=Qt4 hvb.out (fun t ht=>(HG.out t ht).2) hfit;obtain ⟨E,hE⟩:∃ E,Qbe p p.length 0=E:=⟨_,rfl⟩;rw [hE] at hfit hcf hdc;have hpl2:=Qd8 hvb.out;have HCP:=Za (fun w (hb:Below A W w) (hs:NSl w (.slice qa PL qc) p)=>Qhj m p E 0 (Za hcf) _ w hs (HM0.out.below hb HLOW.out) (NdG.nds HG.out) (by omega));have HDC:=Za (fun w (hb:Below A W w)=>Qjd m E p 0 0 (Za hdc) w (HM0.out.below hb HLOW.out) (by omega));clear hcf hdc hE;go_wp2_with fail;((with_reducible refine HVL.out.mono ?_));rintro e w3 ⟨rfl,hb3⟩;have HB3:=Za (Qah HB2.out hAw hb3);have HS3:=Za (HSL.out.below hb3);have HC:=Za (HCP.out w3 HB3.out HS3.out);clear hb3 HVL HCP HSL;go_wp2_with fail;((with_reducible refine HC.out.mono ?_));rintro e w4 ⟨rfl,hb4⟩;have HB4:=Za (Qah HB3.out hAw hb4);have HS4:=Za (HS3.out.below hb4);have HD:=Za (HDC.out w4 HB4.out);clear hb4 HC HS3 HDC;go_wp2_with fail;((with_reducible refine HD.out.mono ?_));rintro e w5 ⟨v5,rfl,hn5,hb5⟩;have HB5:=Za (Qah HB4.out hAw hb5);have HS5:=Za (HS4.out.below hb5);have HT5:=Za (hn5.slG HG.out);have HAW:=Za (Qcq m w5 (HM0.out.below HB5.out HLOW.out));clear hn5 hb5 HD HS4;go_wp2_with fail;((with_reducible refine HAW.out.mono ?_));rintro e w6 ⟨rfl,hb6⟩;have HB6:=Za (Qah HB5.out hAw hb6);have HEQ:=Za (QjM _ _ p w6 (HS5.out.below hb6) (HT5.out.below hb6) (by omega));clear hb6 HAW HS5 HT5;go_wp2_with fail;((with_reducible refine HEQ.out.mono ?_));rintro e w7 ⟨rfl,n7,rfl⟩;go_wp2_with fail;go_ret;exact ⟨rfl,below_drewN HB6.out n7⟩
end Go.Proofs.YtoohondkpddmcaaGreatDoor
