/- Ls Lt -/
import Derived.Test.YtoohondkpddmcaaGreatDoorYzz
import Derived.Test.YtoohondkpddmcaaGreatDoorYbe
import Derived.Test.YtoohondkpddmcaaGreatDoorYat
namespace Go.Proofs.YtoohondkpddmcaaGreatDoor
set_option maxHeartbeats 32000000
set_option linter.unusedVariables false
set_option linter.unusedSimpArgs false
section
open Go.RowKit
attribute [local go_sem] ByteArray.mk_append_mk Qah Qai Qag
theorem Qmx (o ns:List Nd) (a n:Int) (s:List UInt8) (p:Int) (u:List UInt8):(tcI (o++⟨a,n,s,p⟩::ns)).set (o.length * 4+2) (.string ⟨u.toArray⟩)=tcI (o++⟨a,n,u,p⟩::ns):=by
 rw [QdI,QdI,List.set_append_right _ _ (by rw [QcU];omega),QcU,show o.length * 4+2-o.length * 4=2 by omega];rfl
theorem QkU (o ns:List Nd) (a n:Int) (s:List UInt8) (p:Int):(tcI (o++⟨a,n,s,p⟩::ns))[o.length * 4+2]?=some (.string ⟨s.toArray⟩):=by
 rw [QdI,List.getElem?_append_right (by rw [QcU];omega),QcU,show o.length * 4+2-o.length * 4=2 by omega];rfl
theorem TSt.kids {B b:Nat} {w:World} {s:List UInt8} {pos e bl:Nat} {o ns:List Nd} {a n:Int} {x:List UInt8} {p:Int} (h:TSt B b w s pos e bl (o++⟨a,n,x,p⟩::ns)) :
  ∃ g c,w.heap[b]?=some (tdO s pos e bl (.slice (some ⟨g,0,none⟩) (o++⟨a,n,x,p⟩::ns).length c) 0)/\w.cell? ⟨g,o.length * 4+3,none⟩=some (.int .i64 p)/\w.frozen? ⟨g,o.length * 4+3,none⟩=false /\
    (∀ u:Int,TSt B b (w.setCell ⟨g,o.length * 4+3,none⟩ (.int .i64 u)) s pos e bl (o++⟨a,n,x,u⟩::ns)/\Below B w (w.setCell ⟨g,o.length * 4+3,none⟩ (.int .i64 u)))/\w.cell? ⟨g,o.length * 4+2,none⟩=some (.string ⟨x.toArray⟩)/\w.frozen? ⟨g,o.length * 4+2,none⟩=false /\
    (∀ u:List UInt8,TSt B b (w.setCell ⟨g,o.length * 4+2,none⟩ (.string ⟨u.toArray⟩)) s pos e bl (o++⟨a,n,u,p⟩::ns)/\Below B w (w.setCell ⟨g,o.length * 4+2,none⟩ (.string ⟨u.toArray⟩))):=by
 obtain ⟨⟨nv,h1,h3⟩,h4,h5⟩:=h;have hne:=QcI h3 h1;obtain ⟨g,c,hnv,hB⟩:∃ g c,nv = .slice (some ⟨g,0,none⟩) (o++⟨a,n,x,p⟩::ns).length c/\B<=g:=by
  rcases h3.2 with ⟨_,h0⟩|⟨g,cap,cur,e,hb,_⟩
  ·simp at h0
  ·exact ⟨g,cap,e,hb⟩
 subst hnv;refine ⟨g,c,h1,?_,World.ownsRow.frozenAt h3 _,fun u=>?_,?_,World.ownsRow.frozenAt h3 _,fun u=>?_⟩
 ·rw [World.ownsRow.cellAt h3 _ (by simp;omega)];exact Qjt o ns a n x p
 ·obtain ⟨k1,k2⟩:=World.ownsRow.stored h3 (o.length * 4+3) (.int .i64 u);rw [Qlt] at k1;have hL:(o++⟨a,n,x,p⟩::ns).length=(o++(⟨a,n,x,u⟩:Nd)::ns).length:=by simp
  have hb:Below B w (w.setCell ⟨g,o.length * 4+3,none⟩ (.int .i64 u)):=Zb.setCell hB _;rw [hL] at k1 h1;exact ⟨⟨⟨_,QbB h1 _ _ (fun e=>hne (by simp [Value.ownBlock,e])),k1⟩,h4,Nat.le_trans h5 hb.size⟩,hb⟩
 ·rw [World.ownsRow.cellAt h3 _ (by simp;omega)];exact QkU o ns a n x p
 ·obtain ⟨k1,k2⟩:=World.ownsRow.stored h3 (o.length * 4+2) (.string ⟨u.toArray⟩);rw [Qmx] at k1;have hL:(o++⟨a,n,x,p⟩::ns).length=(o++(⟨a,n,u,p⟩:Nd)::ns).length:=by simp
  have hb:Below B w (w.setCell ⟨g,o.length * 4+2,none⟩ (.string ⟨u.toArray⟩)):=Zb.setCell hB _;rw [hL] at k1 h1;exact ⟨⟨⟨_,QbB h1 _ _ (fun e=>hne (by simp [Value.ownBlock,e])),k1⟩,h4,Nat.le_trans h5 hb.size⟩,hb⟩
def Qn4 (B b : Nat) (s : List UInt8) (f : Nat) : Prop := ∀ (k : UInt8) (w : World) (pos e bl : Nat) (o : List Nd), TSt B b w s pos e bl o → pos ≤ e → e ≤ s.length → s.length < pos + f → o.length ≤ pos → bl ≤ pos →
    Calls Tryz.prog 55 #[.pointer (some ⟨b,0,none⟩),.int .u8 k.toNat] w (TPost B b w s e bl o (Qas s f k (QaH bl) pos e))
def QuX (B b : Nat) (s : List UInt8) (f : Nat) : Prop := ∀ (k : UInt8) (w : World) (pos e bl : Nat) (o : List Nd), TSt B b w s pos e bl o → pos ≤ e → e ≤ s.length → s.length < pos + f → o.length ≤ pos → bl ≤ pos →
    Calls Tryz.prog 207 #[.pointer (some ⟨b,0,none⟩),.int .u8 k.toNat] w (TPost B b w s e bl o (Qet s (Qas s f) k (QaH bl) pos e))
def QrZ (B b:Nat) (w:World) (s:List UInt8) (e bl:Nat) (A:List Nd) (a n:Int) (x:List UInt8) (p:Int) (C:List Nd) (z:DR) (en:Ending) (w':World):Prop :=
 Below B w w'/\match z with
  | .no q err=>en = .returned (.bool false)/\QjH b q err w'
  | .ok q ns=>en = .returned (.bool true)/\TSt B b w' s q e bl (A++⟨a,n,x,p⟩::(C++ns))
def Qkh (B b : Nat) (s : List UInt8) (f : Nat) : Prop := ∀ (ks : List UInt8) (w : World) (pos e bl : Nat) (A C : List Nd) (a n : Int) (x : List UInt8) (c : Nat), TSt B b w s pos e bl (A ++ ⟨a, n, x, c⟩ :: C) → pos ≤ e → e ≤ s.length → s.length < pos + f → A.length + 1 + C.length ≤ pos → bl ≤ pos → ks.length ≤ 1000 → c ≤ 1000 →
    Calls Tryz.prog 155 #[.pointer (some ⟨b,0,none⟩),.int .i64 A.length,.string ⟨ks.toArray⟩] w (QrZ B b w s e bl A a n x (c+ks.length:Nat) C (QaM (Qap s (Qas s f) (QaH bl) e) ks pos))
def Qir (ns:List Nd):DR->DR
 | .no q err=>.no q err
 | .ok q ms=>.ok q (ns++ms)
theorem Qmy (x:DR):Qir [] x=x:=by cases x<;>rfl
theorem QjK {child:UInt8->Nat->DR} {k:UInt8} {ks:List UInt8} {pos q:Nat} {err:Int} (h:child k pos = .no q err) (ns:List Nd):Qir ns (QaM child (k::ks) pos) = .no q err:=by
 rw [QaM,h];rfl
theorem QjL {child:UInt8->Nat->DR} {k:UInt8} {ks:List UInt8} {pos q:Nat} {ms:List Nd} (h:child k pos = .ok q ms) (ns:List Nd):Qir ns (QaM child (k::ks) pos)=Qir (ns++ms) (QaM child ks q):=by
 rw [QaM,h];unfold QoD;simp only [];cases QaM child ks q with
 | no r err=>rfl
 | ok r ns2=>unfold Qir;simp only [List.append_assoc]
set_option maxRecDepth 100000 in
theorem QjM (B b:Nat) (s:List UInt8) (f:Nat) (hs:s.length<=65536) (hS:Qn4 B b s f) (hB:QuX B b s f):Qkh B b s f:=by
 intro ks w pos e bl A C a n x c ht hp he hf hA hbl hks hc;have HS:=Za hS;have HBK:=Za hB;unfold Qn4 at HS;unfold QuX at HBK;have H0:=Za ht;obtain ⟨X,hX⟩:∃ X,Hid (QaM (Qap s (Qas s f) (QaH bl) e) ks pos=X):=⟨_,Za rfl⟩;rw [hX.out];have HX0:Hid (X=Qir [] (QaM (Qap s (Qas s f) (QaH bl) e) (ks.drop 0) pos)):=Za (by rw [Qmy,List.drop_zero];exact hX.out.symm);obtain ⟨N,hN⟩:∃ N,ks.length=N:=⟨_,rfl⟩;have HN:=Za hN;rw [hN] at hks;rw [hN];have HI0:Hid (pos<=e/\s.length<pos+f/\A.length+1+C.length+([]:List Nd).length<=pos/\bl<=pos):=Za ⟨hp,hf,by simpa using hA,hbl⟩;have H00:Hid (TSt B b w s pos e bl (A++⟨a,n,x,((c+0:Nat):Int)⟩::(C++[]))):=Za (by rw [List.append_nil];exact ht);obtain ⟨AL,hAL⟩:∃ L,A.length=L:=⟨_,rfl⟩;have HAL:=Za hAL;have hAL2:AL<=65536:=by omega
 rw [hAL];have HSL:=Za hs;have HEL:=Za he;have HCL:=Za hc;have HB0:Hid (Below B w w):=Za Zb;clear ht hS hB hX hN hp he hf hA hbl hAL hs H0;have hAI:∃ z:Int,(AL:Int)=z/\0<=z/\z<=70000:=⟨_,rfl,by omega,by omega⟩;obtain ⟨az,haz,haz0,haz1⟩:=hAI;have HAZ:=Za haz;rw [haz];clear haz hAL2;go_enter Tryz.func155,Tryz.ntmps155;(try simp only [hN]);go_wp2_with fail;go_loopw [11] (fun z wr=>∃ (q pq:Nat) (M:List Nd),z = .int .i64 q/\q<=N/\Hid (TSt B b wr s pq e bl (A++⟨a,n,x,((c+q:Nat):Int)⟩::(C++M)))/\Hid (X=Qir M (QaM (Qap s (Qas s f) (QaH bl) e) (ks.drop q) pq))/\Hid (pq<=e/\s.length<pq+f/\A.length+1+C.length+M.length<=pq/\bl<=pq)/\Hid (Below B w wr)) (fun z _=>N-(intOf z).toNat)
 case atStart=>exact ⟨0,pos,[],by go_num,by omega,H00,HX0,HI0,HB0⟩
 case round =>
  obtain ⟨q,pq,M,rfl,hq,HT,HX,HI,HBW⟩:=hrel;obtain ⟨w3,rfl⟩:∃ y:World,y=wr:=⟨_,rfl⟩;clear H00 HX0 HI0 HB0;by_cases hlt:q<N
  ·have hqk:q<ks.length:=by rw [HN.out];exact hlt
   have hqk':(q:Int)<(ks.length:Int):=by omega
   obtain ⟨k,hk⟩:∃ k,ks[q]=k:=⟨_,rfl⟩;have HD:Hid (ks.drop q=k::ks.drop (q+1)):=Za (by rw [List.drop_eq_getElem_cons hqk,hk]);have hidx:∀ h:q<ks.length,ks[q]=k:=fun _=>hk;obtain ⟨i1,i2,i3,i4⟩:=HI.out;by_cases hkb:QaZ k=true
   ·have hkr:65<=k.toNat/\k.toNat<=90:=by unfold QaZ at hkb;simpa using hkb
    have hk1:(k.toNat:Int)>=65:=by omega
    have hk2:(k.toNat:Int)<=90:=by omega
    obtain ⟨Y,hY⟩:∃ Y,Qet s (Qas s f) k (QaH bl) pq e=Y:=⟨_,rfl⟩;have HC:=Za (HBK.out k w3 pq e bl _ HT.out i1 HEL.out i2 (by simp only [List.length_append,List.length_cons];omega) i4);rw [hY] at HC;have HCH:Hid (Qap s (Qas s f) (QaH bl) e k pq=Y):=Za (by unfold Qap;rw [if_pos hkb];exact hY);have HDG:=Za (Qcg (fun k inner q e h1 h2=>QbW s f k inner q e h1 h2) (inner:=QaH bl) HEL.out k pq i1);rw [HCH.out] at HDG;clear hY hk hkr HT i1 i2 i3 i4 hkb;cases Y with
    | no r err =>
      have HXX:Hid (X = .no r err):=Za (by rw [HX.out,HD.out];exact QjK HCH.out M);go_wp2_with fail;((with_reducible refine HC.out.mono ?_));rintro en w4 ⟨hb4,rfl,ht4⟩;have HB4:=Za (HBW.out.trans hb4);have HT4:=Za ht4;clear hb4 ht4 HC;go_wp2_with fail;go_ret;rw [HXX.out];exact ⟨HB4.out,rfl,HT4.out⟩
    | ok r ms =>
      have HXX:Hid (X=Qir (M++ms) (QaM (Qap s (Qas s f) (QaH bl) e) (ks.drop (q+1)) r)):=Za (by rw [HX.out,HD.out];exact QjL HCH.out M);have HI2:Hid (r<=e/\s.length<r+f/\A.length+1+C.length+(M++ms).length<=r/\bl<=r):=Za (by
       obtain ⟨j1,j2,j3,j4⟩:=HI.out;obtain ⟨d1,d2,d3,_⟩:=HDG.out;rw [List.length_append];omega)
      go_wp2_with fail;((with_reducible refine HC.out.mono ?_));rintro en w4 ⟨hb4,rfl,ht4⟩;have HB4:=Za (HBW.out.trans hb4);rw [List.append_assoc,List.cons_append,List.append_assoc] at ht4;obtain ⟨g,cp,hblk,hcell,hfr,hst,_⟩:=ht4.kids;obtain ⟨d0,d1,d2,d3,d4,d5⟩:=QaY hblk;have HST:=Za (hst ((c+q:Nat)+1:Int));have hoff:A.length * 4+3=AL * 4+3:=by rw [HAL.out]
      obtain ⟨nl,hnl⟩:∃ nl:Nat,(A++⟨a,n,x,((c+q:Nat):Int)⟩::(C++(M++ms))).length=nl:=⟨_,rfl⟩;rw [hnl] at d4;have hnl2:az<(nl:Int):=by rw [<- HAZ.out,<- HAL.out,<- hnl];simp only [List.length_append,List.length_cons];omega
      obtain ⟨cz,hcz⟩:∃ cz:Int,((c+q:Nat):Int)=cz:=⟨_,rfl⟩;have hcz0:0<=cz:=by omega
      have hcz1:cz<=3000:=by have:=HCL.out;omega
      rw [hcz] at hcell HST;have HCZ:=Za hcz;rw [hoff] at hcell hfr HST;have hao:(az.toNat * 4+3)=AL * 4+3:=by rw [<- HAZ.out];simp
      clear hb4 ht4 HC hblk hst hnl hcz HI HX HBW;go_wp2_with fail;have HB5:=Za (HB4.out.trans HST.out.2);have HT5:=Za HST.out.1;have HT6:Hid (TSt B b _ s r e bl (A++⟨a,n,x,((c+(q+1):Nat):Int)⟩::(C++(M++ms)))):=Za (by rw [show ((c+(q+1):Nat):Int)=cz+1 by have:=HCZ.out;omega];exact HT5.out);go_roundw
      case rel=>first|exact ⟨q+1,r,M++ms,by go_num,by omega,HT6,HXX,HI2,HB5⟩|exact ⟨_,q+1,r,M++ms,by go_num,by omega,HT6,HXX,HI2,HB5⟩|exact ⟨_,_,q+1,r,M++ms,by go_num,by omega,HT6,HXX,HI2,HB5⟩|exact ⟨_,_,_,q+1,r,M++ms,by go_num,by omega,HT6,HXX,HI2,HB5⟩|exact ⟨_,_,_,_,q+1,r,M++ms,by go_num,by omega,HT6,HXX,HI2,HB5⟩
      case measure=>simp [intOf];omega
   ·have hkr:¬ (65<=k.toNat/\k.toNat<=90):=by unfold QaZ at hkb;simpa using hkb
    have hkr':(¬ (k.toNat:Int)>=65)\/((k.toNat:Int)>=65/\¬ (k.toNat:Int)<=90):=by omega
    obtain ⟨Y,hY⟩:∃ Y,Qas s f k (QaH bl) pq e=Y:=⟨_,rfl⟩;have HC:=Za (HS.out k w3 pq e bl _ HT.out i1 HEL.out i2 (by simp only [List.length_append,List.length_cons];omega) i4);rw [hY] at HC;have HCH:Hid (Qap s (Qas s f) (QaH bl) e k pq=Y):=Za (by unfold Qap;rw [if_neg hkb];exact hY);have HDG:=Za (Qcg (fun k inner q e h1 h2=>QbW s f k inner q e h1 h2) (inner:=QaH bl) HEL.out k pq i1);rw [HCH.out] at HDG;clear hY hk hkr HT i1 i2 i3 i4 hkb;rcases hkr' with hk1|⟨hk1,hk2⟩
    all_goals
     cases Y with
     | no r err =>
       have HXX:Hid (X = .no r err):=Za (by rw [HX.out,HD.out];exact QjK HCH.out M);go_wp2_with fail;((with_reducible refine HC.out.mono ?_));rintro en w4 ⟨hb4,rfl,ht4⟩;have HB4:=Za (HBW.out.trans hb4);have HT4:=Za ht4;clear hb4 ht4 HC;go_wp2_with fail;go_ret;rw [HXX.out];exact ⟨HB4.out,rfl,HT4.out⟩
     | ok r ms =>
       have HXX:Hid (X=Qir (M++ms) (QaM (Qap s (Qas s f) (QaH bl) e) (ks.drop (q+1)) r)):=Za (by rw [HX.out,HD.out];exact QjL HCH.out M);have HI2:Hid (r<=e/\s.length<r+f/\A.length+1+C.length+(M++ms).length<=r/\bl<=r):=Za (by
        obtain ⟨j1,j2,j3,j4⟩:=HI.out;obtain ⟨d1,d2,d3,_⟩:=HDG.out;rw [List.length_append];omega)
       go_wp2_with fail;((with_reducible refine HC.out.mono ?_));rintro en w4 ⟨hb4,rfl,ht4⟩;have HB4:=Za (HBW.out.trans hb4);rw [List.append_assoc,List.cons_append,List.append_assoc] at ht4;obtain ⟨g,cp,hblk,hcell,hfr,hst,_⟩:=ht4.kids;obtain ⟨d0,d1,d2,d3,d4,d5⟩:=QaY hblk;have HST:=Za (hst ((c+q:Nat)+1:Int));have hoff:A.length * 4+3=AL * 4+3:=by rw [HAL.out]
       obtain ⟨nl,hnl⟩:∃ nl:Nat,(A++⟨a,n,x,((c+q:Nat):Int)⟩::(C++(M++ms))).length=nl:=⟨_,rfl⟩;rw [hnl] at d4;have hnl2:az<(nl:Int):=by rw [<- HAZ.out,<- HAL.out,<- hnl];simp only [List.length_append,List.length_cons];omega
       obtain ⟨cz,hcz⟩:∃ cz:Int,((c+q:Nat):Int)=cz:=⟨_,rfl⟩;have hcz0:0<=cz:=by omega
       have hcz1:cz<=3000:=by have:=HCL.out;omega
       rw [hcz] at hcell HST;have HCZ:=Za hcz;rw [hoff] at hcell hfr HST;have hao:(az.toNat * 4+3)=AL * 4+3:=by rw [<- HAZ.out];simp
       clear hb4 ht4 HC hblk hst hnl hcz HI HX HBW;go_wp2_with fail;have HB5:=Za (HB4.out.trans HST.out.2);have HT5:=Za HST.out.1;have HT6:Hid (TSt B b _ s r e bl (A++⟨a,n,x,((c+(q+1):Nat):Int)⟩::(C++(M++ms)))):=Za (by rw [show ((c+(q+1):Nat):Int)=cz+1 by have:=HCZ.out;omega];exact HT5.out);go_roundw
       case rel=>first|exact ⟨q+1,r,M++ms,by go_num,by omega,HT6,HXX,HI2,HB5⟩|exact ⟨_,q+1,r,M++ms,by go_num,by omega,HT6,HXX,HI2,HB5⟩|exact ⟨_,_,q+1,r,M++ms,by go_num,by omega,HT6,HXX,HI2,HB5⟩|exact ⟨_,_,_,q+1,r,M++ms,by go_num,by omega,HT6,HXX,HI2,HB5⟩|exact ⟨_,_,_,_,q+1,r,M++ms,by go_num,by omega,HT6,HXX,HI2,HB5⟩
       case measure=>simp [intOf];omega
  ·have hlt':¬ (q:Int)<(ks.length:Int):=by rw [HN.out];omega
   have hqN:q=N:=by omega
   have HXX:Hid (X = .ok pq M):=Za (by
    rw [HX.out,hqN,List.drop_of_length_le (by rw [HN.out];omega),QaM];show DR.ok pq (M++[])=_;rw [List.append_nil])
   subst hqN;go_wp2_with fail;go_ret;rw [HXX.out];exact ⟨HBW.out,rfl,HT.out⟩
end
section
open Go.RowKit
attribute [local go_sem] ByteArray.mk_append_mk Qah Qai Qag
theorem QhH (B b:Nat) (most:Nat) (mi:Int) (hm:(most:Int)=mi) (w:World) (s:List UInt8) (pos e bl:Nat) (o:List Nd) (h:TSt B b w s pos e bl o) (hp:pos<=e) (he:e<=s.length) (hs:s.length<=1000000) :
  Calls Tryz.prog 154 #[.pointer (some ⟨b,0,none⟩),.int .i64 mi] w (Quh B b w s pos e bl o (QaK s most (QaH bl) pos e)):=by
 rw [<- hm];exact Qp6 B b most w s pos e bl o h hp he hs
theorem Qvv:∀ c:Fin 8,List.take c.val [(101:UInt8),101,101,101,101,101,101]=List.replicate c.val 101:=by decide
theorem TPost.bel {B b:Nat} {w w1 w2:World} {s:List UInt8} {e bl:Nat} {o:List Nd} {x:DR} {en:Ending} (h:Below B w w1) (k:TPost B b w1 s e bl o x en w2):TPost B b w s e bl o x en w2:=⟨h.trans k.1,k.2⟩
def OpT (B b : Nat) (s : List UInt8) (f : Nat) : Prop := ∀ (op : Int) (w : World) (pos e bl : Nat) (o : List Nd), op ∈ Qew → TSt B b w s pos e bl o → pos ≤ e → e ≤ s.length → s.length < pos + f → o.length + 1 ≤ pos → bl ≤ pos →
    Calls Tryz.prog 110 #[.pointer (some ⟨b,0,none⟩),.int .i64 op] w (TPost B b w s e bl o (Qcb s (Qas s f) op (QaH bl) pos e))
theorem Qd7 {B b:Nat} {w w':World} {s:List UInt8} {e bl:Nat} {A C:List Nd} {a n p:Int} {x:List UInt8} {q:Nat} {err:Int} {en:Ending} (h:QrZ B b w s e bl A a n x p C (.no q err) en w'):en = .returned (.bool false)/\QjH b q err w'/\Below B w w':=⟨h.2.1,h.2.2,h.1⟩
theorem Qd8 {B b:Nat} {w w':World} {s:List UInt8} {e bl:Nat} {A C:List Nd} {a n p:Int} {x:List UInt8} {q:Nat} {ns:List Nd} {en:Ending} (h:QrZ B b w s e bl A a n x p C (.ok q ns) en w'):en = .returned (.bool true)/\TSt B b w' s q e bl (A++⟨a,n,x,p⟩::(C++ns))/\Below B w w':=⟨h.2.1,h.2.2,h.1⟩
set_option maxRecDepth 100000 in
theorem Qr0 (B b:Nat) (s:List UInt8) (f:Nat) (hs:s.length<=65536) (hK:Qkh B b s f) (op:Int) (hop:op∈Qew) (h5:op≠5) (h33:op≠33) (h31:op≠31) (w:World) (pos e bl:Nat) (o:List Nd) (ht:TSt B b w s pos e bl o) (hp:pos<=e) (he:e<=s.length) (hf:s.length<pos+f) (ho:o.length+1<=pos) (hbl:bl<=pos) :
  Calls Tryz.prog 110 #[.pointer (some ⟨b,0,none⟩),.int .i64 op] w (TPost B b w s e bl o (Qcb s (Qas s f) op (QaH bl) pos e)):=by
 have HK:=Za hK;unfold Qkh at HK;have HI:=Za (show pos<=e/\e<=s.length/\s.length<pos+f/\o.length+1<=pos/\bl<=pos from ⟨hp,he,hf,ho,hbl⟩);have HA:Hid (Calls Tryz.prog 106 #[.pointer (some ⟨b,0,none⟩),.agg #[.int .i64 op,.int .u64 0,.string ⟨#[]⟩,.int .i64 0]] w fun en w'=>en = .returned (.int .i64 o.length)/\TSt B b w' s pos e bl (o++[⟨op,0,[],0⟩])/\Below B w w'):=Za (Qcx B b op 0 0 [] w s pos e bl o ht (by omega));have HGC:=Za (fun ks q hq=>QdU (child:=Qap s (Qas s f) (QaH bl) e) (e:=e) (fun k q hq=>Qcg (fun k inner q e h1 h2=>QbW s f k inner q e h1 h2) he k q hq) ks q hq);obtain ⟨X,hX⟩:∃ X,Hid (Qcb s (Qas s f) op (QaH bl) pos e=X):=⟨_,Za rfl⟩;rw [hX.out];have HSZ:=Za ht.size;have HXD:Hid (X=QeO ⟨op,0,[],((Qax op).2.length:Nat)⟩ (QaM (Qap s (Qas s f) (QaH bl) e) (Qax op).2 pos)):=Za (by rw [<- hX.out];unfold Qcb;rw [if_neg h5,if_neg h33,if_neg h31]);have HCK:=Za (QjI op hop h31);have HFL:Hid ((Qax op).2.length<=1000):=Za (by
  have hc:∀ q∈Qew,(Qax q).2.length<=1000:=by decide +kernel
  exact hc op hop)
 obtain ⟨ks,hks⟩:∃ ks,(Qax op).2=ks:=⟨_,rfl⟩;rw [hks] at HXD HCK HFL;have b5:(op==5)=false:=Zd h5;have b33:(op==33)=false:=Zd h33;have b31:(op==31)=false:=Zd h31;clear hX ht hp he hf ho hbl hs hK hks h5 h33 h31 hop;go_enter Tryz.func110,Tryz.ntmps110;go_wp2_with fail;((with_reducible refine HA.out.mono ?_));rintro en w1 ⟨rfl,ht1,hb1⟩;have HT1:=Za ht1;have HB1:=Za hb1;clear ht1 hb1 HA;go_wp2_with fail;((with_reducible refine (HCK.out _).mono ?_));rintro en w2 ⟨rfl,rfl⟩;obtain ⟨Y,hY⟩:∃ Y,QaM (Qap s (Qas s f) (QaH bl) e) ks pos=Y:=⟨_,rfl⟩;obtain ⟨i1,i2,i3,i4,i5⟩:=HI.out;have HC:=Za (HK.out ks w1 pos e bl o [] op 0 [] 0 HT1.out i1 i2 i3 (by simp;omega) i5 HFL.out (by omega));rw [hY] at HC HXD;have HXE:=HXD;clear hY i1 i2 i3 i4 i5 HXD HCK HK HGC HI;cases Y with
 | no q err =>
   have HXX:Hid (X = .no q err):=Za (HXE.out);go_wp2_with fail;((with_reducible refine HC.out.mono ?_));intro en wz hpz;obtain ⟨rfl,htz,hbz⟩:=Qd7 hpz;have HBZ:=Za (HB1.out.trans hbz);have HTZ:=Za htz;clear hpz htz hbz HC;go_wp2_with fail;go_ret;rw [HXX.out];exact ⟨HBZ.out,rfl,HTZ.out⟩
 | ok q ns =>
   have HXX:=Za (HXE.out);go_wp2_with fail;((with_reducible refine HC.out.mono ?_));intro en wz hpz;obtain ⟨rfl,htz,hbz⟩:=Qd8 hpz;have HBZ:=Za (HB1.out.trans hbz);have HTZ:=Za htz;clear hpz htz hbz HC;go_wp2_with fail;go_ret;rw [HXX.out];exact ⟨HBZ.out,rfl,(by have:=HTZ.out;rw [List.nil_append,Nat.zero_add] at this;exact this)⟩
set_option maxRecDepth 100000 in
theorem QtF (B b:Nat) (s:List UInt8) (f:Nat) (hs:s.length<=65536) (hK:Qkh B b s f) (w:World) (pos e bl:Nat) (o:List Nd) (ht:TSt B b w s pos e bl o) (hp:pos<=e) (he:e<=s.length) (hf:s.length<pos+f) (ho:o.length+1<=pos) (hbl:bl<=pos) :
  Calls Tryz.prog 110 #[.pointer (some ⟨b,0,none⟩),.int .i64 33] w (TPost B b w s e bl o (Qcb s (Qas s f) 33 (QaH bl) pos e)):=by
 have HK:=Za hK;unfold Qkh at HK;have HI:=Za (show pos<=e/\e<=s.length/\s.length<pos+f/\o.length+1<=pos/\bl<=pos from ⟨hp,he,hf,ho,hbl⟩);have HA:Hid (Calls Tryz.prog 106 #[.pointer (some ⟨b,0,none⟩),.agg #[.int .i64 33,.int .u64 0,.string ⟨#[]⟩,.int .i64 0]] w fun en w'=>en = .returned (.int .i64 o.length)/\TSt B b w' s pos e bl (o++[⟨33,0,[],0⟩])/\Below B w w'):=Za (Qcx B b 33 0 0 [] w s pos e bl o ht (by omega));have HGC:=Za (fun ks q hq=>QdU (child:=Qap s (Qas s f) (QaH bl) e) (e:=e) (fun k q hq=>Qcg (fun k inner q e h1 h2=>QbW s f k inner q e h1 h2) he k q hq) ks q hq);obtain ⟨X,hX⟩:∃ X,Hid (Qcb s (Qas s f) 33 (QaH bl) pos e=X):=⟨_,Za rfl⟩;rw [hX.out];have HSZ:=Za ht.size;have HXD:Hid (X=(match QaK s 1 (QaH bl) pos e with
  | .no err=>.no pos err
  | .ok c=>QeO ⟨33,0,[],(c:Nat)⟩ (QaM (Qap s (Qas s f) (QaH bl) e) (List.replicate c 101) (pos+1)))):=Za (by rw [<- hX.out]<;>rfl)
 have HQ2:Hid (pos<=e/\e<=s.length):=Za ⟨hp,he⟩;have HSL:=Za hs;clear hX ht hp he hf ho hbl hs hK;go_enter Tryz.func110,Tryz.ntmps110;go_wp2_with fail;((with_reducible refine HA.out.mono ?_));rintro en w1 ⟨rfl,ht1,hb1⟩;have HT1:=Za ht1;have HB1:=Za hb1;clear ht1 hb1 HA;obtain ⟨Z2,hZ2⟩:∃ Z,QaK s 1 (QaH bl) pos e=Z:=⟨_,rfl⟩;have HCC2:=Za (QhH B b 1 1 rfl w1 s pos e bl _ HT1.out HQ2.out.1 HQ2.out.2 (by have:=HSL.out;omega));rw [hZ2] at HCC2 HXD;have HZ2:=Za hZ2;clear hZ2 HT1;cases Z2 with
 | no err =>
   have HXX:Hid (X = .no pos err):=HXD;go_wp2_with fail;((with_reducible refine HCC2.out.mono ?_));rintro en w2c ⟨hb2c,rfl,ht2c⟩;have HBc:=Za (HB1.out.trans hb2c);have HTc:=Za ht2c;clear hb2c ht2c HCC2;go_wp2_with fail;go_ret;rw [HXX.out];exact ⟨HBc.out,rfl,HTc.out⟩
 | ok c =>
   have hc1:=(QcY HZ2.out).1;have hc2:=(QcY HZ2.out).2.1;go_wp2_with fail;((with_reducible refine HCC2.out.mono ?_));rintro en w2c ⟨hb2c,rfl,ht2c⟩;have HB2:=Za (HB1.out.trans hb2c);have HT2:=Za ht2c;have HPN2:Hid (pos+1<=e):=Za (by have:=HQ2.out.1;omega);clear hb2c ht2c HCC2 hc1 HZ2;have HXE:Hid (X=QeO ⟨33,0,[],(c:Nat)⟩ (QaM (Qap s (Qas s f) (QaH bl) e) (List.replicate c 101) (pos+1))):=HXD;clear HXD;have hc01:c=0\/c=1:=by omega
   clear hc2;rcases hc01 with rfl|rfl
   ·obtain ⟨Y,hY⟩:∃ Y,QaM (Qap s (Qas s f) (QaH bl) e) [] (pos+1)=Y:=⟨_,rfl⟩;have HC:=Za (HK.out [] w2c (pos+1) e bl o [] 33 0 [] 0 (HT2.out) (by have:=HPN2.out;omega) HI.out.2.1 (by have:=HI.out.2.2.1;omega) (by have:=HI.out.2.2.2.1;simp;omega) (by have:=HI.out.2.2.2.2;omega) (by simp) (by omega));rw [hY] at HC;have HXE2:=HXE;(try simp only [List.replicate_zero,List.replicate_succ] at HXE2);rw [hY] at HXE2;clear HXE;have HXE:=HXE2;clear HXE2 hY HK HGC HI;(try rw [show (⟨([]:List UInt8).toArray⟩:ByteArray)=ByteArray.empty from rfl] at HC);cases Y with
    | no q err =>
      have HXX:Hid (X = .no q err):=Za (HXE.out);go_wp2_with fail;((with_reducible refine HC.out.mono ?_));intro en wz hpz;obtain ⟨rfl,htz,hbz⟩:=Qd7 hpz;have HBZ:=Za (HB2.out.trans hbz);have HTZ:=Za htz;clear hpz htz hbz HC;go_wp2_with fail;go_ret;rw [HXX.out];exact ⟨HBZ.out,rfl,HTZ.out⟩
    | ok q ns =>
      have HXX:=Za (HXE.out);go_wp2_with fail;((with_reducible refine HC.out.mono ?_));intro en wz hpz;obtain ⟨rfl,htz,hbz⟩:=Qd8 hpz;have HBZ:=Za (HB2.out.trans hbz);have HTZ:=Za htz;clear hpz htz hbz HC;go_wp2_with fail;go_ret;rw [HXX.out];exact ⟨HBZ.out,rfl,(by have:=HTZ.out;rw [List.nil_append] at this;exact this)⟩
   ·obtain ⟨Y,hY⟩:∃ Y,QaM (Qap s (Qas s f) (QaH bl) e) [101] (pos+1)=Y:=⟨_,rfl⟩;have HC:=Za (HK.out [101] w2c (pos+1) e bl o [] 33 0 [] 0 (HT2.out) (by have:=HPN2.out;omega) HI.out.2.1 (by have:=HI.out.2.2.1;omega) (by have:=HI.out.2.2.2.1;simp;omega) (by have:=HI.out.2.2.2.2;omega) (by simp) (by omega));rw [hY] at HC;have HXE2:=HXE;(try simp only [List.replicate_zero,List.replicate_succ] at HXE2);rw [hY] at HXE2;clear HXE;have HXE:=HXE2;clear HXE2 hY HK HGC HI;(try rw [show (⟨([]:List UInt8).toArray⟩:ByteArray)=ByteArray.empty from rfl] at HC);cases Y with
    | no q err =>
      have HXX:Hid (X = .no q err):=Za (HXE.out);go_wp2_with fail;((with_reducible refine HC.out.mono ?_));intro en wz hpz;obtain ⟨rfl,htz,hbz⟩:=Qd7 hpz;have HBZ:=Za (HB2.out.trans hbz);have HTZ:=Za htz;clear hpz htz hbz HC;go_wp2_with fail;go_ret;rw [HXX.out];exact ⟨HBZ.out,rfl,HTZ.out⟩
    | ok q ns =>
      have HXX:=Za (HXE.out);go_wp2_with fail;((with_reducible refine HC.out.mono ?_));intro en wz hpz;obtain ⟨rfl,htz,hbz⟩:=Qd8 hpz;have HBZ:=Za (HB2.out.trans hbz);have HTZ:=Za htz;clear hpz htz hbz HC;go_wp2_with fail;go_ret;rw [HXX.out];exact ⟨HBZ.out,rfl,(by have:=HTZ.out;rw [List.nil_append] at this;exact this)⟩
set_option maxRecDepth 100000 in
theorem QuY (B b:Nat) (s:List UInt8) (f:Nat) (hs:s.length<=65536) (hK:Qkh B b s f) (w:World) (pos e bl:Nat) (o:List Nd) (ht:TSt B b w s pos e bl o) (hp:pos<=e) (he:e<=s.length) (hf:s.length<pos+f) (ho:o.length+1<=pos) (hbl:bl<=pos) :
  Calls Tryz.prog 110 #[.pointer (some ⟨b,0,none⟩),.int .i64 5] w (TPost B b w s e bl o (Qcb s (Qas s f) 5 (QaH bl) pos e)):=by
 have HK:=Za hK;unfold Qkh at HK;have HI:=Za (show pos<=e/\e<=s.length/\s.length<pos+f/\o.length+1<=pos/\bl<=pos from ⟨hp,he,hf,ho,hbl⟩);have HA:Hid (Calls Tryz.prog 106 #[.pointer (some ⟨b,0,none⟩),.agg #[.int .i64 5,.int .u64 0,.string ⟨#[]⟩,.int .i64 0]] w fun en w'=>en = .returned (.int .i64 o.length)/\TSt B b w' s pos e bl (o++[⟨5,0,[],0⟩])/\Below B w w'):=Za (Qcx B b 5 0 0 [] w s pos e bl o ht (by omega));have HGC:=Za (fun ks q hq=>QdU (child:=Qap s (Qas s f) (QaH bl) e) (e:=e) (fun k q hq=>Qcg (fun k inner q e h1 h2=>QbW s f k inner q e h1 h2) he k q hq) ks q hq);obtain ⟨X,hX⟩:∃ X,Hid (Qcb s (Qas s f) 5 (QaH bl) pos e=X):=⟨_,Za rfl⟩;rw [hX.out];have HSZ:=Za ht.size;have HXD:Hid (X=(match QbR s false (QaH bl) pos e with
  | .no err=>.no pos err
  | .ok q t=>match QaK s 7 (QaH bl) q e with
    | .no err=>.no q err
    | .ok c=>QeO ⟨5,0,t,(c:Nat)⟩ (QaM (Qap s (Qas s f) (QaH bl) e) (List.replicate c 101) (q+1)))):=Za (by rw [<- hX.out]<;>rfl)
 have HSL:=Za hs;clear hX ht hp he hf ho hbl hs hK;go_enter Tryz.func110,Tryz.ntmps110;go_wp2_with fail;((with_reducible refine HA.out.mono ?_));rintro en w1 ⟨rfl,ht1,hb1⟩;have HT1:=Za ht1;have HB1:=Za hb1;clear ht1 hb1 HA;obtain ⟨PR,hPR⟩:∃ Z,QbR s false (QaH bl) pos e=Z:=⟨_,rfl⟩;have HCP:=Za (Qp7 B b false w1 s pos e bl _ HT1.out HI.out.1 HI.out.2.1 (by have:=HSL.out;omega));rw [hPR] at HCP HXD;have HPR:=Za hPR;clear hPR HT1;cases PR with
 | no err =>
   have HXX:Hid (X = .no pos err):=HXD;go_wp2_with fail;((with_reducible refine HCP.out.mono ?_));rintro en w2 ⟨hb2,⟨t,rfl⟩,ht2⟩;have HB2:=Za (HB1.out.trans hb2);have HT2:=Za ht2;clear hb2 ht2 HCP;go_wp2_with fail;go_ret;rw [HXX.out];exact ⟨HB2.out,rfl,HT2.out⟩
 | ok q t =>
   have HPQ:=Za (QiB HI.out.1 HI.out.2.1 HPR.out);go_wp2_with fail;((with_reducible refine HCP.out.mono ?_));rintro en w2 ⟨hb2,rfl,ht2⟩;have HB2:=Za (HB1.out.trans hb2);obtain ⟨g,cp,hblk,_,_,_,hcs,hfr,hst⟩:=ht2.kids;obtain ⟨d0,d1,d2,d3,d4,d5⟩:=QaY hblk;have HST:=Za (hst t);obtain ⟨nl,hnl⟩:∃ nl,(o++[(⟨5,0,[],0⟩:Nd)]).length=nl:=⟨_,rfl⟩;rw [hnl] at d4;have hol:(o.length:Int)<(nl:Int):=by rw [<- hnl];simp;omega
   clear hb2 ht2 HCP hblk hst hnl;go_upto_region 8 with fail;have HT3:=Za HST.out.1;have HB3':=Za (HB2.out.trans HST.out.2);generalize w2.setCell ⟨g,o.length * 4+2,none⟩ (.string ⟨t.toArray⟩)=w3 at HT3 HB3' |-;clear HST HB2 d0 d1 d2 d3 d4 d5 hfr hol hcs;have HQ3:Hid (q<=e/\e<=s.length):=Za ⟨HPQ.out.2.1,HI.out.2.1⟩;obtain ⟨Z3,hZ3⟩:∃ Z,QaK s 7 (QaH bl) q e=Z:=⟨_,rfl⟩;have HCC3:=Za (QhH B b 7 7 rfl w3 s q e bl _ HT3.out HQ3.out.1 HQ3.out.2 (by have:=HSL.out;omega));rw [hZ3] at HCC3 HXD;have HZ3:=Za hZ3;clear hZ3 HT3;cases Z3 with
   | no err =>
     have HXX:Hid (X = .no q err):=HXD;go_wp2_with fail;((with_reducible refine HCC3.out.mono ?_));rintro en w3c ⟨hb3c,rfl,ht3c⟩;have HBc:=Za (HB3'.out.trans hb3c);have HTc:=Za ht3c;clear hb3c ht3c HCC3;go_wp2_with fail;go_ret;rw [HXX.out];exact ⟨HBc.out,rfl,HTc.out⟩
   | ok c =>
     have hc1:=(QcY HZ3.out).1;have hc2:=(QcY HZ3.out).2.1;go_wp2_with fail;((with_reducible refine HCC3.out.mono ?_));rintro en w3c ⟨hb3c,rfl,ht3c⟩;have HB3:=Za (HB3'.out.trans hb3c);have HT3:=Za ht3c;have HPN3:Hid (q+1<=e):=Za (by have:=HQ3.out.1;omega);clear hb3c ht3c HCC3 hc1 HZ3;have HXE:Hid (X=QeO ⟨5,0,t,(c:Nat)⟩ (QaM (Qap s (Qas s f) (QaH bl) e) (List.replicate c 101) (q+1))):=HXD;clear HXD;have htk:List.take c [(101:UInt8),101,101,101,101,101,101]=List.replicate c 101:=Qvv ⟨c,by omega⟩;obtain ⟨Y,hY⟩:∃ Y,QaM (Qap s (Qas s f) (QaH bl) e) (List.replicate c 101) (q+1)=Y:=⟨_,rfl⟩;have HC:=Za (HK.out (List.replicate c 101) w3c (q+1) e bl o [] 5 0 t 0 HT3.out (by have:=HPN3.out;omega) HI.out.2.1 (by have:=HI.out.2.2.1;have:=HPQ.out;omega) (by have:=HI.out.2.2.2.1;have:=HPQ.out;simp;omega) (by have:=HI.out.2.2.2.2;have:=HPQ.out;omega) (by simp;omega) (by omega));rw [hY] at HC HXE;rw [<- htk] at HC;have hc7:(c:Int)<=7:=by omega
     clear hY HK HGC HI htk hc2;cases Y with
     | no q err =>
       have HXX:Hid (X = .no q err):=Za (HXE.out);go_wp2_with fail;((with_reducible refine HC.out.mono ?_));intro en wz hpz;obtain ⟨rfl,htz,hbz⟩:=Qd7 hpz;have HBZ:=Za (HB3.out.trans hbz);have HTZ:=Za htz;clear hpz htz hbz HC;go_wp2_with fail;go_ret;rw [HXX.out];exact ⟨HBZ.out,rfl,HTZ.out⟩
     | ok q ns =>
       have HXX:=Za (HXE.out);go_wp2_with fail;((with_reducible refine HC.out.mono ?_));intro en wz hpz;obtain ⟨rfl,htz,hbz⟩:=Qd8 hpz;have HBZ:=Za (HB3.out.trans hbz);have HTZ:=Za htz;clear hpz htz hbz HC;go_wp2_with fail;go_ret;rw [HXX.out];exact ⟨HBZ.out,rfl,(by have:=HTZ.out;rw [List.nil_append,show ((0+(List.take c [(101:UInt8),101,101,101,101,101,101]).length:Nat):Int)=(c:Nat) from (by simp;omega)] at this;exact this)⟩
set_option maxRecDepth 100000 in
theorem QtG (B b:Nat) (s:List UInt8) (f:Nat) (hs:s.length<=65536) (hK:Qkh B b s f) (w:World) (pos e bl:Nat) (o:List Nd) (ht:TSt B b w s pos e bl o) (hp:pos<=e) (he:e<=s.length) (hf:s.length<pos+f) (ho:o.length+1<=pos) (hbl:bl<=pos) :
  Calls Tryz.prog 110 #[.pointer (some ⟨b,0,none⟩),.int .i64 31] w (TPost B b w s e bl o (Qcb s (Qas s f) 31 (QaH bl) pos e)):=by
 have HK:=Za hK;unfold Qkh at HK;have HI:=Za (show pos<=e/\e<=s.length/\s.length<pos+f/\o.length+1<=pos/\bl<=pos from ⟨hp,he,hf,ho,hbl⟩);have HA:Hid (Calls Tryz.prog 106 #[.pointer (some ⟨b,0,none⟩),.agg #[.int .i64 31,.int .u64 0,.string ⟨#[]⟩,.int .i64 0]] w fun en w'=>en = .returned (.int .i64 o.length)/\TSt B b w' s pos e bl (o++[⟨31,0,[],0⟩])/\Below B w w'):=Za (Qcx B b 31 0 0 [] w s pos e bl o ht (by omega));have HGC:=Za (fun ks q hq=>QdU (child:=Qap s (Qas s f) (QaH bl) e) (e:=e) (fun k q hq=>Qcg (fun k inner q e h1 h2=>QbW s f k inner q e h1 h2) he k q hq) ks q hq);obtain ⟨X,hX⟩:∃ X,Hid (Qcb s (Qas s f) 31 (QaH bl) pos e=X):=⟨_,Za rfl⟩;rw [hX.out];have HSZ:=Za ht.size;have HXD:Hid (X=(match QaM (Qap s (Qas s f) (QaH bl) e) [101,83] pos with
  | .no q err=>.no q err
  | .ok q ns=>match QaK s 1 (QaH bl) q e with
    | .no err=>.no q err
    | .ok c=>match QaM (Qap s (Qas s f) (QaH bl) e) (List.replicate c 83) (q+1) with
      | .no r err=>.no r err
      | .ok r ms=>.ok r (⟨31,0,[],(2+c:Nat)⟩::(ns++ms)))):=Za (by rw [<- hX.out]<;>rfl)
 have HSL:=Za hs;clear hX ht hp he hf ho hbl hs hK;go_enter Tryz.func110,Tryz.ntmps110;go_wp2_with fail;((with_reducible refine HA.out.mono ?_));rintro en w1 ⟨rfl,ht1,hb1⟩;have HT1:=Za ht1;have HB1:=Za hb1;clear ht1 hb1 HA;obtain ⟨K1,hK1⟩:∃ Z,QaM (Qap s (Qas s f) (QaH bl) e) [101,83] pos=Z:=⟨_,rfl⟩;have HCP:=Za (HK.out [101,83] w1 pos e bl o [] 31 0 [] 0 HT1.out HI.out.1 HI.out.2.1 HI.out.2.2.1 (by have:=HI.out.2.2.2.1;simp;omega) HI.out.2.2.2.2 (by simp) (by omega));have HG1:=Za (HGC.out [101,83] pos HI.out.1);rw [hK1] at HCP HXD HG1;clear hK1 HT1;cases K1 with
 | no q err =>
   have HXX:Hid (X = .no q err):=HXD;go_wp2_with fail;((with_reducible refine HCP.out.mono ?_));intro en w2 hpz;obtain ⟨rfl,ht2,hb2⟩:=Qd7 hpz;have HB2:=Za (HB1.out.trans hb2);have HT2:=Za ht2;clear hb2 ht2 HCP hpz;go_wp2_with fail;go_ret;rw [HXX.out];exact ⟨HB2.out,rfl,HT2.out⟩
 | ok q ns =>
   go_wp2_with fail;((with_reducible refine HCP.out.mono ?_));intro en w3 hpz;obtain ⟨rfl,ht2,hb2⟩:=Qd8 hpz;have HB3':=Za (HB1.out.trans hb2);rw [List.nil_append] at ht2;have HT3:=Za ht2;clear hb2 ht2 HCP hpz;have HG1:Hid (pos<=q/\q<=e/\ns.length+pos<=q):=Za ⟨HG1.out.1,HG1.out.2.1,HG1.out.2.2.1⟩;have HQ3:Hid (q<=e/\e<=s.length):=Za ⟨HG1.out.2.1,HI.out.2.1⟩;obtain ⟨Z3,hZ3⟩:∃ Z,QaK s 1 (QaH bl) q e=Z:=⟨_,rfl⟩;have HCC3:=Za (QhH B b 1 1 rfl w3 s q e bl _ HT3.out HQ3.out.1 HQ3.out.2 (by have:=HSL.out;omega));rw [hZ3] at HCC3 HXD;have HZ3:=Za hZ3;clear hZ3 HT3;cases Z3 with
   | no err =>
     have HXX:Hid (X = .no q err):=HXD;go_wp2_with fail;((with_reducible refine HCC3.out.mono ?_));rintro en w3c ⟨hb3c,rfl,ht3c⟩;have HBc:=Za (HB3'.out.trans hb3c);have HTc:=Za ht3c;clear hb3c ht3c HCC3;go_wp2_with fail;go_ret;rw [HXX.out];exact ⟨HBc.out,rfl,HTc.out⟩
   | ok c =>
     have hc1:=(QcY HZ3.out).1;have hc2:=(QcY HZ3.out).2.1;go_wp2_with fail;((with_reducible refine HCC3.out.mono ?_));rintro en w3c ⟨hb3c,rfl,ht3c⟩;have HB3:=Za (HB3'.out.trans hb3c);have HT3:=Za ht3c;have HPN3:Hid (q+1<=e):=Za (by have:=HQ3.out.1;omega);clear hb3c ht3c HCC3 hc1 HZ3;have HXE:Hid (X=(match QaM (Qap s (Qas s f) (QaH bl) e) (List.replicate c 83) (q+1) with
      | .no r err=>.no r err
      | .ok r ms=>.ok r (⟨31,0,[],(2+c:Nat)⟩::(ns++ms)))):=HXD
     clear HXD;have hc01:c=0\/c=1:=by omega
     clear hc2;rcases hc01 with rfl|rfl
     ·obtain ⟨Y,hY⟩:∃ Y,QaM (Qap s (Qas s f) (QaH bl) e) [] (q+1)=Y:=⟨_,rfl⟩;have HC:=Za (HK.out [] w3c (q+1) e bl o ns 31 0 [] 2 (HT3.out) (by have:=HPN3.out;omega) HI.out.2.1 (by have:=HI.out.2.2.1;have:=HG1.out.1;omega) (by have:=HI.out.2.2.2.1;have:=HG1.out;omega) (by have:=HI.out.2.2.2.2;have:=HG1.out.1;omega) (by simp) (by omega));rw [hY] at HC;have HXE2:=HXE;(try simp only [List.replicate_zero,List.replicate_succ] at HXE2);rw [hY] at HXE2;clear HXE;have HXE:=HXE2;clear HXE2 hY HK HGC HI;(try rw [show (⟨([]:List UInt8).toArray⟩:ByteArray)=ByteArray.empty from rfl] at HC);cases Y with
      | no q err =>
        have HXX:Hid (X = .no q err):=Za (HXE.out);go_wp2_with fail;((with_reducible refine HC.out.mono ?_));intro en wz hpz;obtain ⟨rfl,htz,hbz⟩:=Qd7 hpz;have HBZ:=Za (HB3.out.trans hbz);have HTZ:=Za htz;clear hpz htz hbz HC;go_wp2_with fail;go_ret;rw [HXX.out];exact ⟨HBZ.out,rfl,HTZ.out⟩
      | ok q ns =>
        have HXX:=Za (HXE.out);go_wp2_with fail;((with_reducible refine HC.out.mono ?_));intro en wz hpz;obtain ⟨rfl,htz,hbz⟩:=Qd8 hpz;have HBZ:=Za (HB3.out.trans hbz);have HTZ:=Za htz;clear hpz htz hbz HC;go_wp2_with fail;go_ret;rw [HXX.out];exact ⟨HBZ.out,rfl,(HTZ.out)⟩
     ·obtain ⟨Y,hY⟩:∃ Y,QaM (Qap s (Qas s f) (QaH bl) e) [83] (q+1)=Y:=⟨_,rfl⟩;have HC:=Za (HK.out [83] w3c (q+1) e bl o ns 31 0 [] 2 (HT3.out) (by have:=HPN3.out;omega) HI.out.2.1 (by have:=HI.out.2.2.1;have:=HG1.out.1;omega) (by have:=HI.out.2.2.2.1;have:=HG1.out;omega) (by have:=HI.out.2.2.2.2;have:=HG1.out.1;omega) (by simp) (by omega));rw [hY] at HC;have HXE2:=HXE;(try simp only [List.replicate_zero,List.replicate_succ] at HXE2);rw [hY] at HXE2;clear HXE;have HXE:=HXE2;clear HXE2 hY HK HGC HI;(try rw [show (⟨([]:List UInt8).toArray⟩:ByteArray)=ByteArray.empty from rfl] at HC);cases Y with
      | no q err =>
        have HXX:Hid (X = .no q err):=Za (HXE.out);go_wp2_with fail;((with_reducible refine HC.out.mono ?_));intro en wz hpz;obtain ⟨rfl,htz,hbz⟩:=Qd7 hpz;have HBZ:=Za (HB3.out.trans hbz);have HTZ:=Za htz;clear hpz htz hbz HC;go_wp2_with fail;go_ret;rw [HXX.out];exact ⟨HBZ.out,rfl,HTZ.out⟩
      | ok q ns =>
        have HXX:=Za (HXE.out);go_wp2_with fail;((with_reducible refine HC.out.mono ?_));intro en wz hpz;obtain ⟨rfl,htz,hbz⟩:=Qd8 hpz;have HBZ:=Za (HB3.out.trans hbz);have HTZ:=Za htz;clear hpz htz hbz HC;go_wp2_with fail;go_ret;rw [HXX.out];exact ⟨HBZ.out,rfl,(HTZ.out)⟩
theorem QjN (B b:Nat) (s:List UInt8) (f:Nat) (hs:s.length<=65536) (hK:Qkh B b s f):OpT B b s f:=by
 intro op w pos e bl o hop ht hp he hf ho hbl;by_cases h5:op=5
 ·subst h5;exact QuY B b s f hs hK w pos e bl o ht hp he hf ho hbl
 by_cases h33:op=33
 ·subst h33;exact QtF B b s f hs hK w pos e bl o ht hp he hf ho hbl
 by_cases h31:op=31
 ·subst h31;exact QtG B b s f hs hK w pos e bl o ht hp he hf ho hbl
 exact Qr0 B b s f hs hK op hop h5 h33 h31 w pos e bl o ht hp he hf ho hbl
end
end Go.Proofs.YtoohondkpddmcaaGreatDoor
