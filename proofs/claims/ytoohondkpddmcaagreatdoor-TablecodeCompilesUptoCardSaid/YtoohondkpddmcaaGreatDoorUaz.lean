/- Mc Ls -/
import Derived.Test.YtoohondkpddmcaaGreatDoorUzz
import Derived.Test.YtoohondkpddmcaaGreatDoorUay
import Derived.Test.YtoohondkpddmcaaGreatDoorUax
import Derived.Test.YtoohondkpddmcaaGreatDoorUap
namespace Go.Proofs.YtoohondkpddmcaaGreatDoor
set_option maxHeartbeats 32000000
set_option linter.unusedVariables false
set_option linter.unusedSimpArgs false
section
open Go.RowKit
attribute [local go_sem] ByteArray.mk_append_mk Qac Qad Qae SameB.some SameB.all
end
section
open Go.RowKit
attribute [local go_sem] ByteArray.mk_append_mk Qac Qad Qae
theorem Qor (o ns:List Nd) (a n:Int) (s:List UInt8) (p:Int) (u:List UInt8):(tcI (o++⟨a,n,s,p⟩::ns)).set (o.length * 4+2) (.string ⟨u.toArray⟩)=tcI (o++⟨a,n,u,p⟩::ns):=by
 rw [QdS,QdS,List.set_append_right _ _ (by rw [Qc1];omega),Qc1,show o.length * 4+2-o.length * 4=2 by omega]<;>rfl
theorem Qmy (o ns:List Nd) (a n:Int) (s:List UInt8) (p:Int):(tcI (o++⟨a,n,s,p⟩::ns))[o.length * 4+2]?=some (.string ⟨s.toArray⟩):=by
 rw [QdS,List.getElem?_append_right (by rw [Qc1];omega),Qc1,show o.length * 4+2-o.length * 4=2 by omega]<;>rfl
theorem TSt.kids {B b:Nat} {w:World} {s:List UInt8} {pos e bl:Nat} {o ns:List Nd} {a n:Int} {x:List UInt8} {p:Int} (h:TSt B b w s pos e bl (o++⟨a,n,x,p⟩::ns)) :
  ∃ g c,w.heap[b]?=some (tdO s pos e bl (.slice (some ⟨g,0,none⟩) (o++⟨a,n,x,p⟩::ns).length c) 0)/\w.cell? ⟨g,o.length * 4+3,none⟩=some (.int .i64 p)/\w.frozen? ⟨g,o.length * 4+3,none⟩=false /\
    (∀ u:Int,TSt B b (w.setCell ⟨g,o.length * 4+3,none⟩ (.int .i64 u)) s pos e bl (o++⟨a,n,x,u⟩::ns)/\Below B w (w.setCell ⟨g,o.length * 4+3,none⟩ (.int .i64 u)))/\w.cell? ⟨g,o.length * 4+2,none⟩=some (.string ⟨x.toArray⟩)/\w.frozen? ⟨g,o.length * 4+2,none⟩=false /\
    (∀ u:List UInt8,TSt B b (w.setCell ⟨g,o.length * 4+2,none⟩ (.string ⟨u.toArray⟩)) s pos e bl (o++⟨a,n,u,p⟩::ns)/\Below B w (w.setCell ⟨g,o.length * 4+2,none⟩ (.string ⟨u.toArray⟩))):=by
 obtain ⟨⟨nv,h1,h3⟩,h4,h5⟩:=h;have hne:=QcQ h3 h1;obtain ⟨g,c,hnv,hB⟩:∃ g c,nv = .slice (some ⟨g,0,none⟩) (o++⟨a,n,x,p⟩::ns).length c/\B<=g:=by
  rcases h3.2 with ⟨_,h0⟩|⟨g,cap,cur,e,hb,_⟩
  ·simp at h0
  ·exact ⟨g,cap,e,hb⟩
 subst hnv;refine ⟨g,c,h1,?_,World.ownsRow.frozenAt h3 _,fun u=>?_,?_,World.ownsRow.frozenAt h3 _,fun u=>?_⟩
 ·rw [World.ownsRow.cellAt h3 _ (by simp;omega)];exact QkW o ns a n x p
 ·obtain ⟨k1,k2⟩:=World.ownsRow.stored h3 (o.length * 4+3) (.int .i64 u);rw [Qnd] at k1;have hL:(o++⟨a,n,x,p⟩::ns).length=(o++(⟨a,n,x,u⟩:Nd)::ns).length:=by simp
  have hb:Below B w (w.setCell ⟨g,o.length * 4+3,none⟩ (.int .i64 u)):=Zb.setCell hB _;rw [hL] at k1 h1;exact ⟨⟨⟨_,QbF h1 _ _ (fun e=>hne (by simp [Value.ownBlock,e])),k1⟩,h4,Nat.le_trans h5 hb.size⟩,hb⟩
 ·rw [World.ownsRow.cellAt h3 _ (by simp;omega)];exact Qmy o ns a n x p
 ·obtain ⟨k1,k2⟩:=World.ownsRow.stored h3 (o.length * 4+2) (.string ⟨u.toArray⟩);rw [Qor] at k1;have hL:(o++⟨a,n,x,p⟩::ns).length=(o++(⟨a,n,u,p⟩:Nd)::ns).length:=by simp
  have hb:Below B w (w.setCell ⟨g,o.length * 4+2,none⟩ (.string ⟨u.toArray⟩)):=Zb.setCell hB _;rw [hL] at k1 h1;exact ⟨⟨⟨_,QbF h1 _ _ (fun e=>hne (by simp [Value.ownBlock,e])),k1⟩,h4,Nat.le_trans h5 hb.size⟩,hb⟩
def QpY (B b : Nat) (s : List UInt8) (f : Nat) : Prop := ∀ (k : UInt8) (w : World) (pos e bl : Nat) (o : List Nd), TSt B b w s pos e bl o → pos ≤ e → e ≤ s.length → s.length < pos + f → o.length ≤ pos → bl ≤ pos →
    Calls Tryz.prog 55 #[.pointer (some ⟨b,0,none⟩),.int .u8 k.toNat] w (TPost B b w s e bl o (Qaw s f k (QaN bl) pos e))
def Qwy (B b : Nat) (s : List UInt8) (f : Nat) : Prop := ∀ (k : UInt8) (w : World) (pos e bl : Nat) (o : List Nd), TSt B b w s pos e bl o → pos ≤ e → e ≤ s.length → s.length < pos + f → o.length ≤ pos → bl ≤ pos →
    Calls Tryz.prog 207 #[.pointer (some ⟨b,0,none⟩),.int .u8 k.toNat] w (TPost B b w s e bl o (Qdl s (Qaw s f) k (QaN bl) pos e))
def QtA (B b:Nat) (w:World) (s:List UInt8) (e bl:Nat) (A:List Nd) (a n:Int) (x:List UInt8) (p:Int) (C:List Nd) (z:DR) (en:Ending) (w':World):Prop :=
 Below B w w'/\match z with
  | .no q err=>en = .returned (.bool false)/\Qlc b q err w'
  | .ok q ns=>en = .returned (.bool true)/\TSt B b w' s q e bl (A++⟨a,n,x,p⟩::(C++ns))
def QlQ (B b : Nat) (s : List UInt8) (f : Nat) : Prop := ∀ (ks : List UInt8) (w : World) (pos e bl : Nat) (A C : List Nd) (a n : Int) (x : List UInt8) (c : Nat), TSt B b w s pos e bl (A ++ ⟨a, n, x, c⟩ :: C) → pos ≤ e → e ≤ s.length → s.length < pos + f → A.length + 1 + C.length ≤ pos → bl ≤ pos → ks.length ≤ 1000 → c ≤ 1000 →
    Calls Tryz.prog 155 #[.pointer (some ⟨b,0,none⟩),.int .i64 A.length,.string ⟨ks.toArray⟩] w (QtA B b w s e bl A a n x (c+ks.length:Nat) C (QaU (Qat s (Qaw s f) (QaN bl) e) ks pos))
def QjX (ns:List Nd):DR->DR
 | .no q err=>.no q err
 | .ok q ms=>.ok q (ns++ms)
theorem Qos (x:DR):QjX [] x=x:=by cases x<;>rfl
theorem Qle {child:UInt8->Nat->DR} {k:UInt8} {ks:List UInt8} {pos q:Nat} {err:Int} (h:child k pos = .no q err) (ns:List Nd):QjX ns (QaU child (k::ks) pos) = .no q err:=by
 rw [QaU,h];rfl
theorem Qlf {child:UInt8->Nat->DR} {k:UInt8} {ks:List UInt8} {pos q:Nat} {ms:List Nd} (h:child k pos = .ok q ms) (ns:List Nd):QjX ns (QaU child (k::ks) pos)=QjX (ns++ms) (QaU child ks q):=by
 rw [QaU,h];unfold Qmo;simp only [];cases QaU child ks q with
 | no r err=>rfl
 | ok r ns2=>unfold QjX;simp only [List.append_assoc]
set_option maxRecDepth 100000 in
theorem Qlg (B b:Nat) (s:List UInt8) (f:Nat) (hs:s.length<=65536) (hS:QpY B b s f) (hB:Qwy B b s f):QlQ B b s f:=by
 intro ks w pos e bl A C a n x c ht hp he hf hA hbl hks hc;have HS:=Za hS;have HBK:=Za hB;unfold QpY at HS;unfold Qwy at HBK;have H0:=Za ht;obtain ⟨X,hX⟩:∃ X,Hid (QaU (Qat s (Qaw s f) (QaN bl) e) ks pos=X):=⟨_,Za rfl⟩;rw [hX.out];have HX0:Hid (X=QjX [] (QaU (Qat s (Qaw s f) (QaN bl) e) (ks.drop 0) pos)):=Za (by rw [Qos,List.drop_zero];exact hX.out.symm);obtain ⟨N,hN⟩:∃ N,ks.length=N:=⟨_,rfl⟩;have HN:=Za hN;rw [hN] at hks;rw [hN];have HI0:Hid (pos<=e/\s.length<pos+f/\A.length+1+C.length+([]:List Nd).length<=pos/\bl<=pos):=Za ⟨hp,hf,by simpa using hA,hbl⟩;have H00:Hid (TSt B b w s pos e bl (A++⟨a,n,x,((c+0:Nat):Int)⟩::(C++[]))):=Za (by rw [List.append_nil];exact ht);obtain ⟨AL,hAL⟩:∃ L,A.length=L:=⟨_,rfl⟩;have HAL:=Za hAL;have hAL2:AL<=65536:=by omega
 rw [hAL];have HSL:=Za hs;have HEL:=Za he;have HCL:=Za hc;have HB0:Hid (Below B w w):=Za Zb;clear ht hS hB hX hN hp he hf hA hbl hAL hs H0;have hAI:∃ z:Int,(AL:Int)=z/\0<=z/\z<=70000:=⟨_,rfl,by omega,by omega⟩;obtain ⟨az,haz,haz0,haz1⟩:=hAI;have HAZ:=Za haz;rw [haz];clear haz hAL2;go_enter Tryz.func155,Tryz.ntmps155;(try simp only [hN]);go_wp2_with fail;go_loopw [11] (fun z wr=>∃ (q pq:Nat) (M:List Nd),z = .int .i64 q/\q<=N/\Hid (TSt B b wr s pq e bl (A++⟨a,n,x,((c+q:Nat):Int)⟩::(C++M)))/\Hid (X=QjX M (QaU (Qat s (Qaw s f) (QaN bl) e) (ks.drop q) pq))/\Hid (pq<=e/\s.length<pq+f/\A.length+1+C.length+M.length<=pq/\bl<=pq)/\Hid (Below B w wr)) (fun z _=>N-(intOf z).toNat)
 case atStart=>exact ⟨0,pos,[],by go_num,by omega,H00,HX0,HI0,HB0⟩
 case round =>
  obtain ⟨q,pq,M,rfl,hq,HT,HX,HI,HBW⟩:=hrel;obtain ⟨w3,rfl⟩:∃ y:World,y=wr:=⟨_,rfl⟩;clear H00 HX0 HI0 HB0;by_cases hlt:q<N
  ·have hqk:q<ks.length:=by rw [HN.out];exact hlt
   have hqk':(q:Int)<(ks.length:Int):=by omega
   obtain ⟨k,hk⟩:∃ k,ks[q]=k:=⟨_,rfl⟩;have HD:Hid (ks.drop q=k::ks.drop (q+1)):=Za (by rw [List.drop_eq_getElem_cons hqk,hk]);have hidx:∀ h:q<ks.length,ks[q]=k:=fun _=>hk;obtain ⟨i1,i2,i3,i4⟩:=HI.out;by_cases hkb:QaQ k=true
   ·have hkr:65<=k.toNat/\k.toNat<=90:=by unfold QaQ at hkb;simpa using hkb
    have hk1:(k.toNat:Int)>=65:=by omega
    have hk2:(k.toNat:Int)<=90:=by omega
    obtain ⟨Y,hY⟩:∃ Y,Qdl s (Qaw s f) k (QaN bl) pq e=Y:=⟨_,rfl⟩;have HC:=Za (HBK.out k w3 pq e bl _ HT.out i1 HEL.out i2 (by simp only [List.length_append,List.length_cons];omega) i4);rw [hY] at HC;have HCH:Hid (Qat s (Qaw s f) (QaN bl) e k pq=Y):=Za (by unfold Qat;rw [if_pos hkb];exact hY);have HDG:=Za (QbR (fun k inner q e h1 h2=>Qbj s f k inner q e h1 h2) (inner:=QaN bl) HEL.out k pq i1);rw [HCH.out] at HDG;clear hY hk hkr HT i1 i2 i3 i4 hkb;cases Y with
    | no r err =>
      have HXX:Hid (X = .no r err):=Za (by rw [HX.out,HD.out];exact Qle HCH.out M);go_wp2_with fail;((with_reducible refine HC.out.mono ?_));rintro en w4 ⟨hb4,rfl,ht4⟩;have HB4:=Za (HBW.out.trans hb4);have HT4:=Za ht4;clear hb4 ht4 HC;go_wp2_with fail;go_ret;rw [HXX.out];exact ⟨HB4.out,rfl,HT4.out⟩
    | ok r ms =>
      have HXX:Hid (X=QjX (M++ms) (QaU (Qat s (Qaw s f) (QaN bl) e) (ks.drop (q+1)) r)):=Za (by rw [HX.out,HD.out];exact Qlf HCH.out M);have HI2:Hid (r<=e/\s.length<r+f/\A.length+1+C.length+(M++ms).length<=r/\bl<=r):=Za (by
       obtain ⟨j1,j2,j3,j4⟩:=HI.out;obtain ⟨d1,d2,d3,_⟩:=HDG.out;rw [List.length_append];omega)
      go_wp2_with fail;((with_reducible refine HC.out.mono ?_));rintro en w4 ⟨hb4,rfl,ht4⟩;have HB4:=Za (HBW.out.trans hb4);rw [List.append_assoc,List.cons_append,List.append_assoc] at ht4;obtain ⟨g,cp,hblk,hcell,hfr,hst,_⟩:=ht4.kids;obtain ⟨d0,d1,d2,d3,d4,d5⟩:=Qa8 hblk;have HST:=Za (hst ((c+q:Nat)+1:Int));have hoff:A.length * 4+3=AL * 4+3:=by rw [HAL.out]
      obtain ⟨nl,hnl⟩:∃ nl:Nat,(A++⟨a,n,x,((c+q:Nat):Int)⟩::(C++(M++ms))).length=nl:=⟨_,rfl⟩;rw [hnl] at d4;have hnl2:az<(nl:Int):=by rw [<- HAZ.out,<- HAL.out,<- hnl];simp only [List.length_append,List.length_cons];omega
      obtain ⟨cz,hcz⟩:∃ cz:Int,((c+q:Nat):Int)=cz:=⟨_,rfl⟩;have hcz0:0<=cz:=by omega
      have hcz1:cz<=3000:=by have:=HCL.out;omega
      rw [hcz] at hcell HST;have HCZ:=Za hcz;rw [hoff] at hcell hfr HST;have hao:(az.toNat * 4+3)=AL * 4+3:=by rw [<- HAZ.out];simp
      clear hb4 ht4 HC hblk hst hnl hcz HI HX HBW;go_wp2_with fail;have HB5:=Za (HB4.out.trans HST.out.2);have HT5:=Za HST.out.1;have HT6:Hid (TSt B b _ s r e bl (A++⟨a,n,x,((c+(q+1):Nat):Int)⟩::(C++(M++ms)))):=Za (by rw [show ((c+(q+1):Nat):Int)=cz+1 by have:=HCZ.out;omega];exact HT5.out);go_roundw
      case rel=>first|exact ⟨q+1,r,M++ms,by go_num,by omega,HT6,HXX,HI2,HB5⟩|exact ⟨_,q+1,r,M++ms,by go_num,by omega,HT6,HXX,HI2,HB5⟩|exact ⟨_,_,q+1,r,M++ms,by go_num,by omega,HT6,HXX,HI2,HB5⟩|exact ⟨_,_,_,q+1,r,M++ms,by go_num,by omega,HT6,HXX,HI2,HB5⟩|exact ⟨_,_,_,_,q+1,r,M++ms,by go_num,by omega,HT6,HXX,HI2,HB5⟩
      case measure=>simp [intOf];omega
   ·have hkr:¬ (65<=k.toNat/\k.toNat<=90):=by unfold QaQ at hkb;simpa using hkb
    have hkr':(¬ (k.toNat:Int)>=65)\/((k.toNat:Int)>=65/\¬ (k.toNat:Int)<=90):=by omega
    obtain ⟨Y,hY⟩:∃ Y,Qaw s f k (QaN bl) pq e=Y:=⟨_,rfl⟩;have HC:=Za (HS.out k w3 pq e bl _ HT.out i1 HEL.out i2 (by simp only [List.length_append,List.length_cons];omega) i4);rw [hY] at HC;have HCH:Hid (Qat s (Qaw s f) (QaN bl) e k pq=Y):=Za (by unfold Qat;rw [if_neg hkb];exact hY);have HDG:=Za (QbR (fun k inner q e h1 h2=>Qbj s f k inner q e h1 h2) (inner:=QaN bl) HEL.out k pq i1);rw [HCH.out] at HDG;clear hY hk hkr HT i1 i2 i3 i4 hkb;rcases hkr' with hk1|⟨hk1,hk2⟩
    all_goals
     cases Y with
     | no r err =>
       have HXX:Hid (X = .no r err):=Za (by rw [HX.out,HD.out];exact Qle HCH.out M);go_wp2_with fail;((with_reducible refine HC.out.mono ?_));rintro en w4 ⟨hb4,rfl,ht4⟩;have HB4:=Za (HBW.out.trans hb4);have HT4:=Za ht4;clear hb4 ht4 HC;go_wp2_with fail;go_ret;rw [HXX.out];exact ⟨HB4.out,rfl,HT4.out⟩
     | ok r ms =>
       have HXX:Hid (X=QjX (M++ms) (QaU (Qat s (Qaw s f) (QaN bl) e) (ks.drop (q+1)) r)):=Za (by rw [HX.out,HD.out];exact Qlf HCH.out M);have HI2:Hid (r<=e/\s.length<r+f/\A.length+1+C.length+(M++ms).length<=r/\bl<=r):=Za (by
        obtain ⟨j1,j2,j3,j4⟩:=HI.out;obtain ⟨d1,d2,d3,_⟩:=HDG.out;rw [List.length_append];omega)
       go_wp2_with fail;((with_reducible refine HC.out.mono ?_));rintro en w4 ⟨hb4,rfl,ht4⟩;have HB4:=Za (HBW.out.trans hb4);rw [List.append_assoc,List.cons_append,List.append_assoc] at ht4;obtain ⟨g,cp,hblk,hcell,hfr,hst,_⟩:=ht4.kids;obtain ⟨d0,d1,d2,d3,d4,d5⟩:=Qa8 hblk;have HST:=Za (hst ((c+q:Nat)+1:Int));have hoff:A.length * 4+3=AL * 4+3:=by rw [HAL.out]
       obtain ⟨nl,hnl⟩:∃ nl:Nat,(A++⟨a,n,x,((c+q:Nat):Int)⟩::(C++(M++ms))).length=nl:=⟨_,rfl⟩;rw [hnl] at d4;have hnl2:az<(nl:Int):=by rw [<- HAZ.out,<- HAL.out,<- hnl];simp only [List.length_append,List.length_cons];omega
       obtain ⟨cz,hcz⟩:∃ cz:Int,((c+q:Nat):Int)=cz:=⟨_,rfl⟩;have hcz0:0<=cz:=by omega
       have hcz1:cz<=3000:=by have:=HCL.out;omega
       rw [hcz] at hcell HST;have HCZ:=Za hcz;rw [hoff] at hcell hfr HST;have hao:(az.toNat * 4+3)=AL * 4+3:=by rw [<- HAZ.out];simp
       clear hb4 ht4 HC hblk hst hnl hcz HI HX HBW;go_wp2_with fail;have HB5:=Za (HB4.out.trans HST.out.2);have HT5:=Za HST.out.1;have HT6:Hid (TSt B b _ s r e bl (A++⟨a,n,x,((c+(q+1):Nat):Int)⟩::(C++(M++ms)))):=Za (by rw [show ((c+(q+1):Nat):Int)=cz+1 by have:=HCZ.out;omega];exact HT5.out);go_roundw
       case rel=>first|exact ⟨q+1,r,M++ms,by go_num,by omega,HT6,HXX,HI2,HB5⟩|exact ⟨_,q+1,r,M++ms,by go_num,by omega,HT6,HXX,HI2,HB5⟩|exact ⟨_,_,q+1,r,M++ms,by go_num,by omega,HT6,HXX,HI2,HB5⟩|exact ⟨_,_,_,q+1,r,M++ms,by go_num,by omega,HT6,HXX,HI2,HB5⟩|exact ⟨_,_,_,_,q+1,r,M++ms,by go_num,by omega,HT6,HXX,HI2,HB5⟩
       case measure=>simp [intOf];omega
  ·have hlt':¬ (q:Int)<(ks.length:Int):=by rw [HN.out];omega
   have hqN:q=N:=by omega
   have HXX:Hid (X = .ok pq M):=Za (by
    rw [HX.out,hqN,List.drop_of_length_le (by rw [HN.out];omega),QaU];show DR.ok pq (M++[])=_;rw [List.append_nil])
   subst hqN;go_wp2_with fail;go_ret;rw [HXX.out];exact ⟨HBW.out,rfl,HT.out⟩
end
end Go.Proofs.YtoohondkpddmcaaGreatDoor
