/- Mz -/
import Derived.Test.YtoohondkpddmcaaGreatDoorUzz
import Derived.Test.YtoohondkpddmcaaGreatDoorUbo
import Derived.Test.YtoohondkpddmcaaGreatDoorUbq
namespace Go.Proofs.YtoohondkpddmcaaGreatDoor
set_option maxHeartbeats 32000000
set_option linter.unusedVariables false
set_option linter.unusedSimpArgs false
open Go.RowKit
attribute [local go_sem] ByteArray.mk_append_mk Qac Qad Qae
set_option maxRecDepth 100000 in
theorem Qnp (p:List Nd) (v0:Value) (l:List Int) (v1:Value) (m:Int) (W:World) (hp:NSl W v0 p) (hpl:p.length<=1048576) (hps:∀ t∈p,t.str.length<=1048576) (hl:IArg W v1 l) (hm:SynG m W) :
  Calls Tryz.prog 4 #[v0,v1] W fun e w'=>e = .returned (.bool true)/\Below W.heap.size W w':=by
 have HM0:=Za hm;have HPG:=Za (fun w (hb:Below W.heap.size W w)=>QeQ v1 l w (hl.belowW hb));have HSY:=Za (fun w (hb:Below W.heap.size W w)=>Qlz v1 l w (hl.belowW hb));unfold QgU at HPG;unfold Qj8 at HSY;obtain ⟨ia,ic,rfl,_⟩:=hl;have HS0:Hid (NSl W v0 p):=Za hp;have HE0:Hid (Qi4 p/\p.length<=1048576):=Za ⟨fun t ht=>⟨hps t ht,(hp.2 t ht).2⟩,hpl⟩;obtain ⟨A,hA⟩:∃ A,W.heap.size=A:=⟨_,rfl⟩;have HLOW:=Za HM0.out.low;have hAw:A<=W.heap.size:=Nat.le_of_eq hA.symm;rw [hA] at HPG HSY HLOW |-;obtain ⟨IL,hIL⟩:∃ L,l.length=L:=⟨_,rfl⟩;rw [hIL] at HPG HSY |-;have HB0:Hid (Below A W W):=Za Zb;obtain ⟨pa,pc,rfl,_⟩:=hp.1;clear hm hA hIL hp hpl hps;go_enter Tryz.func4,Tryz.ntmps4;go_wp2_with fail;go_loopw [0,5] (fun x y wr=>∃ (v:Value) (q:Nat) (ns:List Nd),v=x/\y = .int .i64 q/\q<=3/\Hid (NSl wr v ns)/\Hid (Qi4 ns/\ns.length<=1048576)/\Hid (Below A W wr)) (fun _ y _=>3-(intOf y).toNat)
 case atStart=>exact ⟨_,0,p,rfl,rfl,by omega,HS0,HE0,HB0⟩
 case round =>
  obtain ⟨v,q,ns,rfl,rfl,hq,HS,HE,HB⟩:=hrel;obtain ⟨w1,rfl⟩:∃ y:World,y=wr:=⟨_,rfl⟩;clear HS0 HE0 HB0;by_cases hlt:q<3
  ·have hlt':(q:Int)<3:=by omega
   obtain ⟨S,er,hse⟩:∃ S er,Hid (QcS ns=(S,er)):=⟨_,_,Za rfl⟩;have hsl:S.length<=65536:=by have h:=QmI ns;rw [hse.out] at h;exact h
   have HC:=Za (Qhj m ns S er hse v w1 HS.out (HM0.out.below HB.out HLOW.out) HE.out.1 (by have:=HE.out.2;omega));have HRC:=Za (fun w (h:NSl w v ns)=>QoD ns S er hse v w h HE.out.1 (by have:=HE.out.2;omega));go_wp2_with fail;((with_reducible refine HC.out.mono ?_));rintro e w2 ⟨rfl,hb2⟩;have HB2:=Za (Qah HB.out hAw hb2);have HR:=Za (HRC.out w2 (HS.out.below hb2));clear hb2 HC HRC HS HE HB hse;go_wp2_with fail;((with_reducible refine HR.out.mono ?_));rintro e w3 ⟨rfl,hb3⟩;have HB3:=Za (Qah HB2.out hAw hb3);have HP:=Za (HPG.out w3 HB3.out);clear hb3 HR HB2;go_wp2_with fail;((with_reducible refine HP.out.mono ?_));rintro e w4 ⟨v4,n4,rfl,hn4,hg4,hv4,hb4⟩;have HB4:=Za (Qah HB3.out hAw hb4);have HS4:=Za (hn4.slG hg4);have HE4:Hid (Qi4 n4/\n4.length<=1048576):=Za ⟨NdG.nds hg4,by have:=Qd8 hv4.1;omega⟩;clear hn4 hg4 hv4 hb4 HP HB3;by_cases hq1:q=1
   ·subst hq1;have HY:=Za (HSY.out w4 HB4.out);go_wp2_with fail;((with_reducible refine HY.out.mono ?_));rintro e w5 ⟨v5,n5,rfl,hn5,hg5,hl5,hb5⟩;have HB5:=Za (Qah HB4.out hAw hb5);have HS5:=Za (hn5.slG hg5);have HE5:Hid (Qi4 n5/\n5.length<=1048576):=Za ⟨NdG.nds hg5,by omega⟩;clear hn5 hg5 hl5 hb5 HY HB4 HS4 HE4;go_wp2_with fail;go_roundw
    case rel=>exact ⟨_,2,n5,rfl,by go_num,by omega,HS5,HE5,HB5⟩
    case measure=>simp [intOf]
   ·have hq1':((q:Int)==1)=false:=by rw [beq_eq_false_iff_ne];omega
    clear hq1;go_wp2_with fail;go_roundw
    case rel=>exact ⟨_,q+1,n4,rfl,by go_num,by omega,HS4,HE4,HB4⟩
    case measure=>simp [intOf];omega
  ·have hlt':¬ (q:Int)<3:=by omega
   have HAW:=Za (Qcq m w1 (HM0.out.below HB.out HLOW.out));go_wp2_with fail;((with_reducible refine HAW.out.mono ?_));rintro e w2 ⟨rfl,hb2⟩;have HB2:=Za (Qah HB.out hAw hb2);clear hb2 HAW;go_wp2_with fail;go_ret;exact ⟨rfl,HB2.out⟩
end Go.Proofs.YtoohondkpddmcaaGreatDoor
