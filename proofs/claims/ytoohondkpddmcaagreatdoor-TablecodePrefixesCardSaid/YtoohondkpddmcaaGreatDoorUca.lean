/- Lf -/
import Derived.Test.YtoohondkpddmcaaGreatDoorUzz
import Derived.Test.YtoohondkpddmcaaGreatDoorUbw
namespace Go.Proofs.YtoohondkpddmcaaGreatDoor
set_option linter.unusedVariables false
set_option linter.unusedSimpArgs false
open Go.RowKit
theorem Qcg {s:List UInt8} {pos q r:Nat} (h1:pos<=q) (h2:q<=r):Qam s pos q++Qam s q r=Qam s pos r:=by
 unfold Qam;rw [show r-pos=(q-pos)+(r-q) by omega,List.take_add,List.drop_drop,show pos+(q-pos)=q by omega]
theorem Qjl (s:List UInt8) (pos:Nat):Qam s pos pos=[]:=by unfold Qam;rw [Nat.sub_self,List.take_zero]
theorem Qhq {s:List UInt8} {pos:Nat} (h:pos<s.length):Qam s pos (pos+1)=[s.getD pos 0]:=by
 unfold Qam;rw [show pos+1-pos=1 by omega,List.drop_eq_getElem_cons h,List.take_succ_cons,List.take_zero,List.getD_eq_getElem?_getD,List.getElem?_eq_getElem h];rfl
theorem QgW {s:List UInt8} {pos e m:Nat} (h:pos+m<=e):(Qam s pos e).take m=Qam s pos (pos+m):=(QhW s pos e m h).symm
theorem QvH (c:UInt8):QaW c=0\/QaW c=1\/QaW c=2\/QaW c=3\/QaW c=6\/QaW c=7\/UInt8.ofNat (Qbd (QaW c))=c:=by
 have:∀ x:Fin 256,QaW (UInt8.ofNat x.val)=0\/QaW (UInt8.ofNat x.val)=1\/QaW (UInt8.ofNat x.val)=2\/QaW (UInt8.ofNat x.val)=3\/QaW (UInt8.ofNat x.val)=6\/QaW (UInt8.ofNat x.val)=7\/UInt8.ofNat (Qbd (QaW (UInt8.ofNat x.val)))=UInt8.ofNat x.val:=by decide +kernel
 have h2:=this ⟨c.toNat,c.toNat_lt⟩;rw [UInt8.ofNat_toNat] at h2;exact h2
theorem Qt5 (k:UInt8):Qar k 0=false:=by
 have:∀ x:Fin 256,Qar (UInt8.ofNat x.val) 0=false:=by decide +kernel
 have h2:=this ⟨k.toNat,k.toNat_lt⟩
 rwa [UInt8.ofNat_toNat] at h2
def PcE (p:List Nd) (s:List UInt8) (d f:Nat):Prop:=∀ (k:UInt8) (i j:Nat) (inner:Bool) (pos e q:Nat) (ns R:List Nd),Qan p d false k i=some j->Qaw s f k inner pos e = .ok q ns->p.drop i=ns++R->pos<=e->e<=s.length->j=i+ns.length/\(Qak p d i).1=Qam s pos q
def PcB (p:List Nd) (s:List UInt8) (d f:Nat):Prop:=∀ (k:UInt8) (i j:Nat) (inner:Bool) (pos e q:Nat) (ns R:List Nd),Qan p d true k i=some j->Qdl s (Qaw s f) k inner pos e = .ok q ns->p.drop i=ns++R->pos<=e->e<=s.length->j=i+ns.length/\(Qak p d i).1=Qam s pos q
theorem Qjm {p:List Nd} {i:Nat} {a b R:List Nd} (h:p.drop i=a++b++R):p.drop i=a++(b++R)/\p.drop (i+a.length)=b++R:=by
 rw [List.append_assoc] at h;refine ⟨h,?_⟩;rw [<- List.drop_drop,h,List.drop_left]
theorem Qhr {p:List Nd} {i:Nat} {n:Nd} {a:List Nd} (h:p.drop i=n::a):p[i]?=some n/\p.drop (i+1)=a:=by
 have h1:(p.drop i)[0]?=some n:=by rw [h];rfl
 rw [List.getElem?_drop,Nat.add_zero] at h1;refine ⟨h1,?_⟩;rw [<- List.drop_drop,h];rfl
theorem QfF {p:List Nd} {s:List UInt8} {d f:Nat} (hE:PcE p s d f) (hB:PcB p s d f) (inner:Bool) (e:Nat) (he:e<=s.length):∀ (ks:List UInt8) (i j pos q:Nat) (ns R:List Nd),QaT (fun k j=>Qan p d (QaQ k) k j) ks i=some j ->
  QaU (Qat s (Qaw s f) inner e) ks pos = .ok q ns->p.drop i=ns++R->pos<=e->j=i+ns.length/\(QaB (Qak p d) ks.length i).1=Qam s pos q
 | [],i,j,pos,q,ns,R,h,hd,hp,hpe=>by
   rw [QaT] at h;injection h with h;rw [QaU] at hd;injection hd with h1 h2;subst h1 h2;exact ⟨by simp [h],by rw [Qjl];rfl⟩
 | k::ks,i,j,pos,q,ns,R,h,hd,hp,hpe=>by
   rw [QaT] at h;cases hx:Qan p d (QaQ k) k i with
   | none=>rw [hx] at h;cases h
   | some i2 =>
     rw [hx] at h;rw [QaU] at hd;unfold Qmo at hd;have hg:=QbR (fun k inner q e h1 h2=>Qbj s f k inner q e h1 h2) (inner:=inner) he k pos hpe;cases hc:Qat s (Qaw s f) inner e k pos with
     | no r err=>rw [hc] at hd;cases hd
     | ok r ns1 =>
       rw [hc] at hd hg;simp only [] at hd;obtain ⟨g1,g2,_⟩:=hg;have hg2:=QcT (child:=Qat s (Qaw s f) inner e) (e:=e) (fun k q hq=>QbR (fun k inner q e h1 h2=>Qbj s f k inner q e h1 h2) he k q hq) ks r g2;cases hk:QaU (Qat s (Qaw s f) inner e) ks r with
       | no r2 err=>rw [hk] at hd;cases hd
       | ok r2 ns2 =>
         rw [hk] at hd hg2;injection hd with h1 h2;subst h1;rw [<- h2] at hp |-;obtain ⟨hp1,hp2⟩:=Qjm hp;have hc2:i2=i+ns1.length/\(Qak p d i).1=Qam s pos r:=by
          unfold Qat at hc;split at hc
          ·next hb=>rw [hb] at hx;exact hB k i i2 inner pos e r ns1 _ hx hc hp1 hpe he
          ·next hb =>
           have hb':QaQ k=false:=by simpa using hb
           rw [hb'] at hx;exact hE k i i2 inner pos e r ns1 _ hx hc hp1 hpe he
         obtain ⟨c1,c2⟩:=hc2;obtain ⟨d1,d2⟩:=QfF hE hB inner e he ks i2 j r r2 ns2 R h hk (by rw [c1];exact hp2) g2;refine ⟨by rw [List.length_append];omega,?_⟩;rw [List.length_cons,QaB];simp only [Qa7 p d (QaQ k) k i i2 hx];rw [c2,d2,Qcg (by omega) hg2.1]
theorem QmP {p:List Nd} {s:List UInt8} {d f:Nat} (hE:PcE p s d f) (k:UInt8) (e:Nat) (he:e<=s.length):∀ (F m i j pos c q:Nat) (ns ms R:List Nd),Qbn (Qan p d false k) m i=some j ->
  QbQ (fun q=>Qaw s f k true q e) e F c ns pos = .ok q (⟨4,0,[],(c+m:Nat)⟩::(ns++ms))->p.drop i=ms++R->pos<=e->j=i+ms.length/\(QaB (Qak p d) m i).1=Qam s pos e
 | 0,m,i,j,pos,c,q,ns,ms,R,h,hd,hp,hpe=>by cases hd
 | F+1,m,i,j,pos,c,q,ns,ms,R,h,hd,hp,hpe=>by
   rw [QbQ] at hd;split at hd
   ·next hpos =>
    injection hd with h1 h2;injection h2 with h2 h3;injection h2 with _ _ _ h2;obtain rfl:m=0:=by omega
    obtain rfl:ms=[]:=List.append_cancel_left (by rw [List.append_nil];exact h3.symm);rw [Qbn] at h;injection h with h;exact ⟨by simp [h],by rw [hpos,Qjl];rfl⟩
   ·next hpos =>
    have hg:=Qbj s f k true pos e hpe he;cases hc:Qaw s f k true pos e with
    | no r err=>rw [hc] at hd;cases hd
    | ok r ns1 =>
      rw [hc] at hd hg;simp only [] at hd;obtain ⟨g1,g2,g3,g4,_⟩:=hg;have he2:=Qf7 (sub:=fun q=>Qaw s f k true q e) (e:=e) (fun q hq=>Qbj s f k true q e hq he) F (c+1) (ns++ns1) r g2;rw [hd] at he2;simp only [] at he2;obtain ⟨_,m2,ms2,e1,e2,_⟩:=he2;injection e1 with e1 e3;injection e1 with _ _ _ e1;obtain rfl:m=m2+1:=by omega
      obtain rfl:ms=ns1++ms2:=List.append_cancel_left (by rw [e3,List.append_assoc]);rw [Qbn] at h;cases hx:Qan p d false k i with
      | none=>rw [hx] at h;cases h
      | some i2 =>
        rw [hx] at h;obtain ⟨hp1,hp2⟩:=Qjm hp;obtain ⟨c1,c2⟩:=hE k i i2 true pos e r ns1 _ hx hc hp1 hpe he;obtain ⟨d1,d2⟩:=QmP hE k e he F m2 i2 j r (c+1) q (ns++ns1) ms2 R h (by rw [hd,List.append_assoc,show c+1+m2=c+(m2+1) by omega]) (by rw [c1];exact hp2) g2;refine ⟨by rw [List.length_append];omega,?_⟩;rw [QaB];simp only [Qa7 p d false k i i2 hx];rw [c2,d2,Qcg (by omega) g2]
theorem QmQ {p:List Nd} {s:List UInt8} {d f:Nat} (hs:s.length<=1000000) (hE:PcE p s d f):PcB p s (d+1) f:=by
 intro k i j inner pos e q ns R hv hd hp hpe he;obtain ⟨n,hn,⟨h4,h0,hst,hps⟩,hx⟩:=Qg5 hv;unfold Qdl at hd;obtain ⟨v,m,er,hr⟩:∃ v m er,QbE (Qam s pos e)=(v,m,er):=⟨_,_,_,rfl⟩;rw [hr] at hd;simp only [] at hd;split at hd
 ·next h00 =>
  rw [h00] at hr;obtain ⟨b1,b2,b3,b4⟩:=Qf6 _ _ _ hr;rw [Qbo hpe he] at b2;split at hd
  ·cases hd
  ·next hve =>
   have hg:=Qf7 (sub:=fun q=>Qaw s f k true q (pos+m+v.toNat)) (e:=pos+m+v.toNat) (fun q hq=>Qbj s f k true q _ hq (by omega)) (s.length+1) 0 [] (pos+m) (by omega);rw [hd] at hg;simp only [] at hg;obtain ⟨g1,M,ms,g2,g3,_⟩:=hg;rw [g2] at hp hd |-;rw [List.nil_append] at hp;obtain ⟨p1,p2⟩:=Qhr (a:=ms++R) hp;rw [hn] at p1;injection p1 with p1;have hM:n.pos.toNat=M:=by rw [p1];simp
   rw [hM] at hx;obtain ⟨d1,d2⟩:=QmP hE k (pos+m+v.toNat) (by omega) _ M (i+1) j (pos+m) 0 q [] ms R hx hd p2 (by omega);refine ⟨by simp only [List.nil_append,List.length_cons];omega,?_⟩;rw [Qak,hn];simp only [h4,hM];show QaP ((QaB (Qak p d) M (i+1)).1.length:Nat)++(QaB (Qak p d) M (i+1)).1=_;rw [d2,Qbo (by omega) (by omega),show (((pos+m+v.toNat-(pos+m):Nat)):Int)=v by omega,b1,QgW (by omega),Qcg (by omega) (by omega),g1]
 ·cases hd
theorem Qt6 {p:List Nd} {s:List UInt8} {d f:Nat} (hs:s.length<=1000000) (hE:PcE p s d f) (hB:PcB p s d f):PcE p s (d+1) (f+1):=by
 intro k i j inner pos e q ns R hv hd hp hpe he;obtain ⟨n,ks,hn,ha,hfl,hk,hx⟩:=Qg4 hv;have hkc:=QgJ hk;rw [Qaw] at hd;unfold Qbw at hd;split at hd
 ·cases hd
 next hne =>
 split at hd
 ·cases hd
 next hacc =>
 have hps:pos<s.length:=by omega
 obtain ⟨c,hc⟩:∃ c,s.getD pos 0=c:=⟨_,rfl⟩;have h1b:=Qhq hps;rw [hc] at hd hacc h1b;have one:∀ (n':Nd),p.drop i=[n']++R->n'=n:=fun n' h=>by
  obtain ⟨h1,_⟩:=Qhr (n:=n') (a:=R) h;rw [hn] at h1;injection h1 with h1;exact h1.symm
 have leaf:n.pos=0->j=i+1:=fun h0=>by
  have h1:ks=[]:=List.eq_nil_of_length_eq_zero (by omega);rw [h1,QaT] at hx;injection hx with hx;exact hx.symm
 split at hd
 ·unfold Qde at hd;split at hd
  ·next h00 =>
   obtain ⟨b1,b2,b3,b4⟩:=Qf4 (Qam s pos e) (QbD (Qam s pos e)).1 (QbD (Qam s pos e)).2.1 (Prod.ext rfl (Prod.ext rfl h00));rw [Qbo hpe he] at b2;injection hd with h1 h2;subst h1 h2;have e1:=one _ hp;have k1:n.kind=1:=by rw [<- e1]
   refine ⟨leaf (by rw [<- e1]),?_⟩;rw [Qak,hn];simp only [k1];rw [<- e1];show QaZ (Int.toNat ((QbD (Qam s pos e)).1:Nat))=_;rw [Int.toNat_natCast,b1,QgW (by omega)]
  ·cases hd
 split at hd
 ·unfold Qde at hd;split at hd
  ·next h00 =>
   obtain ⟨b1,b2,b3,b4⟩:=Qf5 (Qam s pos e) (Qbq (Qam s pos e)).1 (Qbq (Qam s pos e)).2.1 (Prod.ext rfl (Prod.ext rfl h00));rw [Qbo hpe he] at b2;injection hd with h1 h2;subst h1 h2;have e1:=one _ hp;have k1:n.kind=2:=by rw [<- e1]
   refine ⟨leaf (by rw [<- e1]),?_⟩;rw [Qak,hn];simp only [k1];rw [<- e1];show Qco (Qbq (Qam s pos e)).1=_;rw [b1,QgW (by omega)]
  ·cases hd
 split at hd
 ·cases hpx:Qcc s (k==115) inner pos e with
  | no err=>rw [hpx] at hd;cases hd
  | ok q2 t =>
    rw [hpx] at hd;obtain ⟨a1,a2,a3,a4,a5,_⟩:=Qiw hpe he hpx;injection hd with h1 h2;subst h1 h2;have e1:=one _ hp;have k1:n.kind=3:=by rw [<- e1]
    refine ⟨leaf (by rw [<- e1]),?_⟩;rw [Qak,hn];simp only [k1];rw [<- e1];exact a5
 split at hd
 ·next h6 =>
  injection hd with h1 h2;subst h1 h2;have e1:=one _ hp;have k1:n.kind=6:=by rw [<- e1]
  refine ⟨leaf (by rw [<- e1]),?_⟩;rw [Qak,hn];simp only [k1];rw [h1b,<- e1];show [UInt8.ofNat (Qbd 6+((c.toNat:Int)-96).toNat)]=[c];have:=Qwk h6;rw [show Qbd 6=96 by decide,show 96+((c.toNat:Int)-96).toNat=c.toNat by omega,UInt8.ofNat_toNat]
 split at hd
 ·next h7 =>
  injection hd with h1 h2;subst h1 h2;have e1:=one _ hp;have k1:n.kind=7:=by rw [<- e1]
  refine ⟨leaf (by rw [<- e1]),?_⟩;rw [Qak,hn];simp only [k1];rw [h1b,<- e1];show [UInt8.ofNat (Qbd 7+((c.toNat:Int)-104).toNat)]=[c];have:=Qwl h7;rw [show Qbd 7=104 by decide,show 104+((c.toNat:Int)-104).toNat=c.toNat by omega,UInt8.ofNat_toNat]
 next n1 n2 n3 n6 n7 =>
 have hob:UInt8.ofNat (Qbd (QaW c))=c:=by
  rcases QvH c with h|h|h|h|h|h|h
  ·rw [h,Qt5] at hacc;exact absurd rfl hacc
  ·exact absurd h n1
  ·exact absurd h n2
  ·exact absurd h n3
  ·exact absurd h n6
  ·exact absurd h n7
  ·exact h
 have hpe1:pos+1<=e:=by omega
 have gk:=fun ks q hq=>QcT (child:=Qat s (Qaw s f) inner e) (e:=e) (fun k q hq=>QbR (fun k inner q e h1 h2=>Qbj s f k inner q e h1 h2) he k q hq) ks q hq;have fin:∀ (X:List UInt8),X=Qam s (pos+1) q->pos+1<=q->c::X=Qam s pos q:=fun X h hq=>by
  rw [h,<- Qcg (Nat.le_succ pos) hq,h1b];rfl
 unfold Qb0 at hd;split at hd
 ·next k5 =>
  cases hpx:Qcc s false inner (pos+1) e with
  | no err=>rw [hpx] at hd;cases hd
  | ok q2 t =>
    rw [hpx] at hd;simp only [] at hd;obtain ⟨a1,a2,a3,a4,a5,_⟩:=Qiw hpe1 he hpx;cases hcx:Qbf s 7 inner q2 e with
    | no err=>rw [hcx] at hd;cases hd
    | ok cn =>
      rw [hcx] at hd;simp only [] at hd;obtain ⟨b1,b2,b3⟩:=Qcd hcx;have hg:=gk (List.replicate cn 101) (q2+1) (by omega);cases hkx:QaU (Qat s (Qaw s f) inner e) (List.replicate cn 101) (q2+1) with
      | no r err=>rw [hkx] at hd;cases hd
      | ok r ms =>
        rw [hkx] at hd hg;obtain ⟨g1,g2,_⟩:=hg;injection hd with h1 h2;subst h1 h2;obtain ⟨p1,p2⟩:=Qhr (a:=ms++R) hp;rw [hn] at p1;injection p1 with p1;have kk:n.kind=5:=by rw [p1]
        have hkr:=Qd9 hk (.inl kk);have hcn:n.pos.toNat=cn:=by rw [p1];simp
        rw [hkr,hcn] at hx;obtain ⟨d1,d2⟩:=QfF hE hB inner e he _ _ _ _ _ _ _ hx hkx p2 (by omega);rw [List.length_replicate] at d2;refine ⟨by rw [List.length_cons];omega,?_⟩;rw [Qak,hn];simp only [kk];show 63::(Qbu n.str++UInt8.ofNat n.pos.toNat::(QaB (Qak p d) n.pos.toNat (i+1)).1)=_;have h63:(63:UInt8)=c:=by rw [<- hob,k5];decide
        have ht:n.str=t:=by rw [p1]
        rw [hcn,d2,h63];refine fin _ ?_ (by omega);rw [ht,a5,b3,UInt8.ofNat_toNat,<- Qcg (show pos+1<=q2 by omega) (show q2<=r by omega),<- Qcg (Nat.le_succ q2) g1,Qhq (by omega)];rfl
 split at hd
 ·next k5 k33 =>
  cases hcx:Qbf s 1 inner (pos+1) e with
  | no err=>rw [hcx] at hd;cases hd
  | ok cn =>
    rw [hcx] at hd;simp only [] at hd;obtain ⟨b1,b2,b3⟩:=Qcd hcx;have hg:=gk (List.replicate cn 101) (pos+1+1) (by omega);cases hkx:QaU (Qat s (Qaw s f) inner e) (List.replicate cn 101) (pos+1+1) with
    | no r err=>rw [hkx] at hd;cases hd
    | ok r ms =>
      rw [hkx] at hd hg;obtain ⟨g1,g2,_⟩:=hg;injection hd with h1 h2;subst h1 h2;obtain ⟨p1,p2⟩:=Qhr (a:=ms++R) hp;rw [hn] at p1;injection p1 with p1;have kk:n.kind=33:=by rw [p1]
      have hkr:=Qd9 hk (.inr kk);have hcn:n.pos.toNat=cn:=by rw [p1];simp
      rw [hkr,hcn] at hx;obtain ⟨d1,d2⟩:=QfF hE hB inner e he _ _ _ _ _ _ _ hx hkx p2 (by omega);rw [List.length_replicate] at d2;refine ⟨by rw [List.length_cons];omega,?_⟩;rw [Qak,hn];simp only [kk];show 115::UInt8.ofNat n.pos.toNat::(QaB (Qak p d) n.pos.toNat (i+1)).1=_;have h63:(115:UInt8)=c:=by rw [<- hob,k33];decide
      rw [hcn,d2,h63];refine fin _ ?_ (by omega);rw [b3,UInt8.ofNat_toNat,<- Qcg (Nat.le_succ (pos+1)) g1,Qhq (by omega)];rfl
 split at hd
 ·next k5 k33 k31 =>
  have hg1:=gk [101,83] (pos+1) hpe1;cases hk1:QaU (Qat s (Qaw s f) inner e) [101,83] (pos+1) with
  | no r err=>rw [hk1] at hd;cases hd
  | ok r1 ms1 =>
    rw [hk1] at hd hg1;simp only [] at hd;obtain ⟨g1,g2,_⟩:=hg1;cases hcx:Qbf s 1 inner r1 e with
    | no err=>rw [hcx] at hd;cases hd
    | ok cn =>
      rw [hcx] at hd;simp only [] at hd;obtain ⟨b1,b2,b3⟩:=Qcd hcx;have hg3:=gk (List.replicate cn 83) (r1+1) (by omega);cases hk2:QaU (Qat s (Qaw s f) inner e) (List.replicate cn 83) (r1+1) with
      | no r err=>rw [hk2] at hd;cases hd
      | ok r2 ms2 =>
        rw [hk2] at hd hg3;obtain ⟨g3,g4,_⟩:=hg3;injection hd with h1 h2;subst h1 h2;obtain ⟨p1,p2⟩:=Qhr (a:=ms1++ms2++R) hp;rw [hn] at p1;injection p1 with p1;have kk:n.kind=31:=by rw [p1]
        have hcn:(n.pos-2).toNat=cn:=by rw [p1];show (((2+cn:Nat):Int)-2).toNat=cn;omega
        obtain ⟨hkr,_⟩:=Qnr hk kk;rw [hkr,hcn] at hx;obtain ⟨i2,hx1,hx2⟩:=Qhp _ _ _ _ _ hx;obtain ⟨p3,p4⟩:=Qjm p2;obtain ⟨d1,d2⟩:=QfF hE hB inner e he _ _ _ _ _ _ _ hx1 hk1 p3 hpe1;obtain ⟨d3,d4⟩:=QfF hE hB inner e he _ _ _ _ _ _ _ hx2 hk2 (by rw [d1];exact p4) (by omega);rw [List.length_replicate] at d4;have hq:(QaB (Qak p d) 2 (i+1)).2=i2:=QdU (fun b k i j h=>Qa7 p d b k i j h) 2 _ _ (Qn6 _ _ _ hx1);refine ⟨by rw [List.length_cons,List.length_append];omega,?_⟩;rw [Qak,hn];simp only [kk];show 113::((QaB (Qak p d) 2 (i+1)).1++UInt8.ofNat (n.pos-2).toNat::(QaB (Qak p d) (n.pos-2).toNat (QaB (Qak p d) 2 (i+1)).2).1)=_;have h63:(113:UInt8)=c:=by rw [<- hob,k31];decide
        have d2':(QaB (Qak p d) 2 (i+1)).1=Qam s (pos+1) r1:=d2;rw [hq,hcn,d4,d2',h63];refine fin _ ?_ (by omega);rw [b3,UInt8.ofNat_toNat,<- Qcg (show pos+1<=r1 by omega) (show r1<=r2 by omega),<- Qcg (Nat.le_succ r1) g3,Qhq (by omega)];rfl
 next k5 k33 k31 =>
 have hg:=gk (QaE (QaW c)).2 (pos+1) hpe1;cases hkx:QaU (Qat s (Qaw s f) inner e) (QaE (QaW c)).2 (pos+1) with
 | no r err=>rw [hkx] at hd;cases hd
 | ok r ms =>
   rw [hkx] at hd hg;obtain ⟨g1,g2,_⟩:=hg;injection hd with h1 h2;subst h1 h2;obtain ⟨p1,p2⟩:=Qhr (a:=ms++R) hp;rw [hn] at p1;injection p1 with p1;have kk:n.kind=QaW c:=by rw [p1]
   have k4:n.kind≠4:=by
    intro h4;have hc:∀ op∈Qej,op≠4:=by decide
    exact hc _ (Qhh ha) h4
   obtain ⟨hkr,_⟩:=Qjk hk (by rw [kk];exact k5) (by rw [kk];exact k33) (by rw [kk];exact k31);have hcn:n.pos.toNat=(QaE (QaW c)).2.length:=by rw [p1];simp
   rw [hkr,kk] at hx;obtain ⟨d1,d2⟩:=QfF hE hB inner e he _ _ _ _ _ _ _ hx hkx p2 hpe1;refine ⟨by rw [List.length_cons];omega,?_⟩;rw [Qak,hn];simp only [];rw [if_neg (by rw [kk];exact n1),if_neg (by rw [kk];exact n2),if_neg (by rw [kk];exact n3),if_neg k4,if_neg (by rw [kk];exact fun h=>h.elim n6 n7),if_neg (by rw [kk];exact k5),if_neg (by rw [kk];exact k33),if_neg (by rw [kk];exact k31)];show UInt8.ofNat (Qbd n.kind)::(QaB (Qak p d) n.pos.toNat (i+1)).1=_;rw [hcn,d2,kk,hob];exact fin _ rfl g1
theorem QiN {p:List Nd} {s:List UInt8} (hs:s.length<=1000000):∀ (d f:Nat),PcE p s d f/\PcB p s d f
 | 0,f=>⟨fun k i j inner pos e q ns R hv=>(by rw [Qan] at hv;cases hv),fun k i j inner pos e q ns R hv=>(by rw [Qan] at hv;cases hv)⟩
 | d+1,0=>⟨fun k i j inner pos e q ns R hv hd=>(by cases hd),QmQ hs (QiN hs d 0).1⟩
 | d+1,f+1=>⟨Qt6 hs (QiN hs d f).1 (QiN hs d f).2,QmQ hs (QiN hs d (f+1)).1⟩
theorem QqF {p:List Nd} {s:List UInt8} (hs:s.length<=1000000):∀ (F i pos q f:Nat) (ns0 ns:List Nd),QcW s F ns0 pos = .ok q (ns0++ns)->p.drop i=ns->QbT p f i=true->pos<=s.length->p.length-i<=f->Qbe p f i=Qam s pos s.length
 | 0,i,pos,q,f,ns0,ns,hd,hp,hv,hpe,hf=>by cases hd
 | F+1,i,pos,q,f,ns0,ns,hd,hp,hv,hpe,hf=>by
   rw [QcW] at hd;split at hd
   ·next hpos =>
    injection hd with h1 h2;obtain rfl:ns=[]:=List.append_cancel_left (by rw [List.append_nil];exact h2.symm);have hl:p.length<=i:=List.drop_eq_nil_iff.1 hp;rw [hpos,Qjl];cases f with
    | zero=>rfl
    | succ f=>rw [Qbe,if_pos hl]
   ·next hpos =>
    have hg:=Qbj s (s.length+1) 68 false pos s.length hpe Zc;cases hc:Qaw s (s.length+1) 68 false pos s.length with
    | no r err=>rw [hc] at hd;cases hd
    | ok r ms =>
      rw [hc] at hd hg;simp only [] at hd;obtain ⟨g1,g2,g3,g4,_⟩:=hg;obtain ⟨ms2,hms⟩:∃ ms2,ns=ms++ms2:=by
       have key:∀ (F pos:Nat) (a:List Nd) (q:Nat) (b:List Nd),QcW s F a pos = .ok q b->∃ c,b=a++c:=by
        intro F;induction F with
        | zero=>intro pos a q b h;cases h
        | succ F ih =>
          intro pos a q b h;rw [QcW] at h;split at h
          ·injection h with h1 h2;exact ⟨[],by rw [List.append_nil,h2]⟩
          ·cases hx:Qaw s (s.length+1) 68 false pos s.length with
           | no r err=>rw [hx] at h;cases h
           | ok r m =>
             rw [hx] at h;obtain ⟨c,hc⟩:=ih _ _ _ _ h;exact ⟨m++c,by rw [hc,List.append_assoc]⟩
       obtain ⟨c,hc⟩:=key _ _ _ _ _ hd;exact ⟨c,List.append_cancel_left (by rw [hc,List.append_assoc])⟩
      rw [hms] at hp hd;have hl:i<p.length:=by
       have:=congrArg List.length hp;rw [List.length_drop,List.length_append] at this;omega
      cases f with
      | zero=>omega
      | succ f =>
        rw [QbT,if_neg (by omega)] at hv;cases hx:Qan p 32 false 68 i with
        | none=>rw [hx] at hv;cases hv
        | some j =>
          rw [hx] at hv;obtain ⟨c1,c2⟩:=(QiN (p:=p) hs 32 (s.length+1)).1 68 i j false pos s.length r ms ms2 hx hc hp hpe Zc;rw [Qbe,if_neg (by omega),Qa7 p 32 false 68 i j hx,c2];rw [QqF hs F j r q f (ns0++ms) ms2 (by rw [hd,List.append_assoc]) (by rw [c1,<- List.drop_drop,hp,List.drop_left]) hv g2 (by omega),Qcg (by omega) g2]
theorem Qt7 {s:List UInt8} {ns:List Nd} {i:Int} (h:QeV s=(ns,i,0)):QcS ns=(s,0)/\QaS ns=true:=by
 unfold QeV at h;split at h
 ·simp at h
 ·next hl =>
  have hg:∀ (F pos:Nat) (a:List Nd),pos<=s.length->match QcW s F a pos with|.no r err=>err=3\/err=4|.ok _ _=>True:=by
   intro F;induction F with
   | zero=>intro pos a hp;exact .inl rfl
   | succ F ih =>
     intro pos a hp;by_cases hpq:pos=s.length
     ·rw [QcW,if_pos hpq];trivial
     ·rw [QcW,if_neg hpq];have hg:=Qbj s (s.length+1) 68 false pos s.length hp Zc;cases hx:Qaw s (s.length+1) 68 false pos s.length with
      | no r err=>rw [hx] at hg;exact hg.2.2
      | ok r m=>rw [hx] at hg;exact ih _ _ hg.2.1
  have hg:=hg (s.length+1) 0 [] (Nat.zero_le _);cases hx:QcW s (s.length+1) [] 0 with
  | no r err =>
    rw [hx] at h hg;unfold QpG at h;simp only [Prod.mk.injEq] at h;simp only [] at hg;omega
  | ok q out =>
    rw [hx] at h;unfold QpG at h;simp only [] at h;split at h
    ·next hv =>
     simp only [Prod.mk.injEq,and_true] at h;obtain ⟨rfl,_⟩:=h;have hv':=hv;unfold QaS at hv';rw [Bool.and_eq_true] at hv';have ht:=QqF (p:=out) (s:=s) (by omega) (s.length+1) 0 0 q out.length [] out (by rw [List.nil_append];exact hx) (by simp) hv'.2 (Nat.zero_le _) (by omega);have hr:Qam s 0 s.length=s:=by unfold Qam;simp
     rw [hr] at ht;refine ⟨?_,hv⟩;unfold QcS;rw [if_neg (by rw [hv];decide),ht,if_neg hl]
    ·simp at h
end Go.Proofs.YtoohondkpddmcaaGreatDoor
