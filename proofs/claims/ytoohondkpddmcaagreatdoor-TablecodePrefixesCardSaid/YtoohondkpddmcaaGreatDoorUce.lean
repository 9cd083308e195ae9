/- Qa Lg -/
import Derived.Test.YtoohondkpddmcaaGreatDoorUzz
import Derived.Test.YtoohondkpddmcaaGreatDoorUat
import Derived.Test.YtoohondkpddmcaaGreatDoorUca
namespace Go.Proofs.YtoohondkpddmcaaGreatDoor
set_option linter.unusedVariables false
set_option linter.unusedSimpArgs false
section
open Go.RowKit
def QgX:Nat->List Nd->Option (List Nd)
 | 0,r=>some r
 | _+1,[]=>none
 | o+1,n::r=>if 0<=n.pos then QgX (o+n.pos.toNat) r else none
theorem QmR (r:List Nd):QgX 0 r=some r:=by cases r<;>rfl
theorem Qhs {o:Nat} {n:Nd} {r:List Nd} (h:0<=n.pos):QgX (o+1) (n::r)=QgX (o+n.pos.toNat) r:=by rw [QgX,if_pos h]
theorem Qt8 {n:Nd} {ks:List UInt8} (h:QbH n=some ks):0<=n.pos/\n.pos.toNat=ks.length:=by
 unfold QbH at h;split at h
 ·split at h
  ·injection h with h;subst h;rw [List.length_replicate];omega
  ·cases h
 split at h
 ·split at h
  ·injection h with h;subst h;rw [List.length_replicate];omega
  ·cases h
 split at h
 ·next h3=>injection h with h;subst h;rw [h3.2];exact ⟨by decide,rfl⟩
 split at h
 ·next h2=>injection h with h;subst h;omega
 ·cases h
theorem QlF (p:List Nd):∀ (d:Nat) (b:Bool) (k:UInt8) (i j:Nat),Qan p d b k i=some j->∀ o,QgX (o+1) (p.drop i)=QgX o (p.drop j)
 | 0,b,k,i,j,h=>by rw [Qan] at h;cases h
 | d+1,true,k,i,j,h=>fun o=>by
   rw [Qan] at h;cases hn:p[i]? with
   | none=>rw [hn] at h;cases h
   | some n =>
     rw [hn] at h;simp only [] at h;obtain ⟨hi,e⟩:=List.getElem?_eq_some_iff.1 hn;split at h
     ·next hx =>
      rw [List.drop_eq_getElem_cons hi,e,Qhs hx.2.2.2];have key:∀ (m i j o:Nat),Qbn (Qan p d false k) m i=some j->QgX (o+m) (p.drop i)=QgX o (p.drop j):=by
       intro m;induction m with
       | zero=>intro i j o h;rw [Qbn] at h;injection h with h;rw [h];rfl
       | succ m ih =>
         intro i j o h;rw [Qbn] at h;cases hv:Qan p d false k i with
         | none=>rw [hv] at h;cases h
         | some q =>
           rw [hv] at h;rw [<- Nat.add_assoc,QlF p d false k i q hv (o+m)];exact ih q j o h
      exact key _ _ _ _ h
     ·cases h
 | d+1,false,k,i,j,h=>fun o=>by
   rw [Qan] at h;cases hn:p[i]? with
   | none=>rw [hn] at h;cases h
   | some n =>
     rw [hn] at h;simp only [] at h;obtain ⟨hi,e⟩:=List.getElem?_eq_some_iff.1 hn;split at h
     ·cases hk:QbH n with
      | none=>rw [hk] at h;cases h
      | some ks =>
        rw [hk] at h;simp only [] at h;obtain ⟨k1,k2⟩:=Qt8 hk;rw [List.drop_eq_getElem_cons hi,e,Qhs k1,k2];have key:∀ (ks:List UInt8) (i j o:Nat),QaT (fun k j=>Qan p d (QaQ k) k j) ks i=some j->QgX (o+ks.length) (p.drop i)=QgX o (p.drop j):=by
         intro ks;induction ks with
         | nil=>intro i j o h;rw [QaT] at h;injection h with h;rw [h];rfl
         | cons k ks ih =>
           intro i j o h;rw [QaT] at h;cases hv:Qan p d (QaQ k) k i with
           | none=>rw [hv] at h;cases h
           | some q =>
             rw [hv] at h;rw [List.length_cons,<- Nat.add_assoc,QlF p d (QaQ k) k i q hv (o+ks.length)];exact ih q j o h
        exact key _ _ _ _ h
     ·cases h
end
section
open Go.RowKit
theorem QvI {v:Nat} {x y:List UInt8} (hv:v<=Qcb) (h:QaZ v=x++y) (hy:y≠[]):(QbD x).2.2=4:=by
 refine Classical.byContradiction fun h4=>?_;have h1:=Qrt x y h4;have h2:=Qmm v [] hv;rw [List.append_nil,h,h1] at h2;have h3:=(Qf4 x _ _ h2).2.1;rw [List.length_append] at h3;have:=List.length_pos_iff.2 hy;omega
theorem QqG (c:UInt8):Qbq [c]=if c.toNat=13 then ([],0,4) else ([],0,3):=by rw [Qbq]
theorem Qns (c d:UInt8) (r:List UInt8):Qbq (c::d::r)=if c.toNat=13 then (if r.length<d.toNat then ([],0,4) else (r.take d.toNat,2+d.toNat,0)) else ([],0,3):=by rw [Qbq]
theorem Qsg (s t:List UInt8) (h:(Qbq s).2.2≠4):Qbq (s++t)=Qbq s:=by
 match s,h with
 | [],h=>exact absurd rfl h
 | [c],h =>
   by_cases hc:c.toNat=13
   ·exfalso;apply h;rw [QqG,if_pos hc]
   ·cases t with
    | nil=>rfl
    | cons d r=>show Qbq (c::d::r)=Qbq [c];rw [QqG,Qns,if_neg hc,if_neg hc]
 | c::d::r,h =>
   show Qbq (c::d::(r++t))=_;rw [Qns] at h |-;rw [Qns];by_cases hc:c.toNat=13
   ·rw [if_pos hc] at h |-;rw [if_pos hc];by_cases hl:r.length<d.toNat
    ·rw [if_pos hl] at h;exact absurd rfl h
    ·rw [if_neg hl,if_neg (by rw [List.length_append];omega),List.take_append_of_le_length (by omega)]
   ·rw [if_neg hc,if_neg hc]
theorem QvJ {v x y:List UInt8} (hv:v.length<=255) (h:Qco v=x++y) (hy:y≠[]):(Qbq x).2.2=4:=by
 refine Classical.byContradiction fun h4=>?_;have h1:=Qsg x y h4;have h2:=Ql9 v [] hv;rw [List.append_nil,h,h1] at h2;have h3:=(Qf5 x _ _ h2).2.1;have h5:=congrArg List.length h;rw [Qef,List.length_append] at h5;have:=List.length_pos_iff.2 hy;omega
theorem QvK {n:Nat} {x y:List UInt8} (hn:n<268435452) (h:QaP (n:Nat)=x++y) (hy:y≠[]):(QbE x).2.2=4:=by
 refine Classical.byContradiction fun h4=>?_;have hp:=Qgl hn;have h1:=Qru x y h4;have h2:=QiZ (n:Nat) [] (by intro h;rw [h] at hp;simp at hp);rw [List.append_nil,h,h1] at h2;have h3:=(Qf6 x _ _ h2).2.1;rw [List.length_append] at h3;have:=List.length_pos_iff.2 hy;omega
theorem Qt9 {root:Bool} {up:Nat} {l:List (List UInt8)} {x y:List UInt8} (hv:QaD root up l=true) (h:Qbg root up l=x++y) (hy:y≠[]):(QaA x).err=4:=by
 refine Classical.byContradiction fun h4=>?_;have h1:=QpA x y h4;have h2:=QkM root up l [] hv;rw [List.append_nil,h,h1] at h2;have h3:=(QeK x (by rw [h2])).2.1;rw [h2,List.length_append] at h3;have:=List.length_pos_iff.2 hy;simp only [] at h3;omega
def PxE (p:List Nd) (s:List UInt8) (d f:Nat):Prop:=∀ (k:UInt8) (i j pos e:Nat) (y:List UInt8),Qan p d false k i=some j->(Qak p d i).1=Qam s pos e++y->y≠[]->pos<=e->e<=s.length->s.length<pos+f->∃ q,Qaw s f k false pos e = .no q 4
def PxB (p:List Nd) (s:List UInt8) (d f:Nat):Prop:=∀ (k:UInt8) (i j pos e:Nat) (y:List UInt8),Qan p d true k i=some j->(Qak p d i).1=Qam s pos e++y->y≠[]->pos<=e->e<=s.length->s.length<pos+f->∃ q,Qdl s (Qaw s f) k false pos e = .no q 4
theorem Qht {A B x y:List UInt8} (h:A++B=x++y) (hy:y≠[]):(∃ a,x=A++a/\B=a++y)\/(∃ c,A=x++c/\c≠[]):=by
 rcases List.append_eq_append_iff.1 h with ⟨a,h1,h2⟩|⟨c,h1,h2⟩
 ·exact .inl ⟨a,h1,h2⟩
 ·cases c with
  | nil=>exact .inl ⟨[],by rw [List.append_nil] at h1 |-;exact h1.symm,by rw [List.nil_append] at h2 |-;exact h2.symm⟩
  | cons z c=>exact .inr ⟨z::c,h1,by simp⟩
theorem Qhu {s:List UInt8} {pos e:Nat} {A a:List UInt8} (hp:pos<=e) (he:e<=s.length) (h:Qam s pos e=A++a):Here s pos e A/\Qam s (pos+A.length) e=a/\pos+A.length<=e:=by
 have hh:Here s pos e A:=⟨hp,he,a,h⟩;refine ⟨hh,?_,hh.len⟩;rw [QkR,h,List.drop_left]
theorem QfH {p:List Nd} {s:List UInt8} {d f:Nat} (hs:s.length<=1000000) (hn:Qge p) (hE:PxE p s d f) (hB:PxB p s d f) (e:Nat) (he:e<=s.length):∀ (ks:List UInt8) (i j pos:Nat) (y:List UInt8),QaT (fun k j=>Qan p d (QaQ k) k j) ks i=some j ->
  (QaB (Qak p d) ks.length i).1=Qam s pos e++y->y≠[]->pos<=e->s.length<pos+f->∃ q,QaU (Qat s (Qaw s f) false e) ks pos = .no q 4
 | [],i,j,pos,y,h,hh,hy,hp,hf=>by
   rw [List.length_nil,QaB] at hh;exact absurd (List.append_eq_nil_iff.1 hh.symm).2 hy
 | k::ks,i,j,pos,y,h,hh,hy,hp,hf=>by
   rw [QaT] at h;cases hx:Qan p d (QaQ k) k i with
   | none=>rw [hx] at h;cases h
   | some i2 =>
     rw [hx] at h;rw [List.length_cons,QaB] at hh;simp only [Qa7 p d (QaQ k) k i i2 hx] at hh;rw [QaU];rcases Qht hh hy with ⟨a,h1,h2⟩|⟨c,h1,h2⟩
     ·obtain ⟨g1,g2,g3⟩:=Qhu hp he h1;have hc:Qat s (Qaw s f) false e k pos = .ok (pos+(Qak p d i).1.length) (seg p i i2):=by
       unfold Qat
       split
       ·next hb=>rw [hb] at hx;exact (QeR hs hn d f).2 k i i2 false pos e hx g1 hf
       ·next hb =>
        have hb':QaQ k=false:=by simpa using hb
        rw [hb'] at hx;exact (QeR hs hn d f).1 k i i2 false pos e hx g1 hf
      obtain ⟨q,hq⟩:=QfH hs hn hE hB e he ks i2 j (pos+(Qak p d i).1.length) y h (by rw [g2];exact h2) hy g3 (by omega);refine ⟨q,?_⟩;rw [hc];unfold Qmo;simp only [hq]
     ·have hc:∃ q,Qat s (Qaw s f) false e k pos = .no q 4:=by
       unfold Qat
       split
       ·next hb=>rw [hb] at hx;exact hB k i i2 pos e c hx h1 h2 hp he hf
       ·next hb =>
        have hb':QaQ k=false:=by simpa using hb
        rw [hb'] at hx;exact hE k i i2 pos e c hx h1 h2 hp he hf
      obtain ⟨q,hq⟩:=hc;exact ⟨q,by rw [hq];rfl⟩
theorem Qsh {p:List Nd} {s:List UInt8} {d f:Nat} (hs:s.length<=1000000) (hlen:∀ b k i j,Qan p (d+1) b k i=some j->(Qak p (d+1) i).1.length<=100000000):PxB p s (d+1) f:=by
 intro k i j pos e y hv hh hy hp he hf;have hL:=hlen _ _ _ _ hv;obtain ⟨n,hn,⟨h4,h0,hst,hps⟩,hx⟩:=Qg5 hv;have henc:(Qak p (d+1) i).1=QaP ((QaB (Qak p d) n.pos.toNat (i+1)).1.length:Nat)++(QaB (Qak p d) n.pos.toNat (i+1)).1:=by
  rw [Qak,hn];simp only [h4];rfl
 rw [henc] at hh hL;obtain ⟨Bd,hBd⟩:∃ z,(QaB (Qak p d) n.pos.toNat (i+1)).1=z:=⟨_,rfl⟩;rw [hBd] at hh hL;rw [List.length_append] at hL;have hp1:=Qgl (n:=Bd.length) (by omega);unfold Qdl;rcases Qht hh hy with ⟨a,h1,h2⟩|⟨c,h1,h2⟩
 ·obtain ⟨g1,g2,g3⟩:=Qhu hp he h1;have hr:QbE (Qam s pos e)=(((Bd.length:Nat):Int),(QaP (Bd.length:Nat)).length,0):=by
   rw [h1,QiZ _ _ (by intro h;rw [h] at hp1;simp at hp1)]
  have ha:=congrArg List.length g2;rw [Qbo g3 he] at ha;have hb:=congrArg List.length h2;rw [List.length_append] at hb;have:=List.length_pos_iff.2 hy;simp only [hr,if_true];rw [if_pos (by omega)];exact ⟨_,rfl⟩
 ·have hr:=QvK (by omega) h1 h2;rw [if_neg (by rw [hr];decide),hr];exact ⟨_,rfl⟩
theorem Qua {p:List Nd} {s:List UInt8} {d f:Nat} (hs:s.length<=1000000) (hp:Qge p) (hE:PxE p s d f) (hB:PxB p s d f):PxE p s (d+1) (f+1):=by
 intro k i j pos e y hv hh hy hpe he hf;obtain ⟨n,ks,hn,ha,hfl,hk,hx⟩:=Qg4 hv;have hnum:=hp n (List.mem_of_getElem? hn);have hkc:=QgJ hk;rw [Qaw];unfold Qbw;by_cases hpos:pos=e
 ·rw [if_pos hpos];exact ⟨_,rfl⟩
 rw [if_neg hpos];have hne:Qam s pos e≠[]:=by
  intro h;have:=congrArg List.length h;rw [Qbo hpe he,List.length_nil] at this;omega
 have hd1:∀ (c:UInt8) (C:List UInt8),c::C=Qam s pos e++y->s.getD pos 0=c/\C=Qam s (pos+1) e++y:=fun c C h=>by
  rcases Qht (A:=[c]) (B:=C) h hy with ⟨a,h1,h2⟩|⟨z,h1,h2⟩
  ·obtain ⟨g1,g2,_⟩:=Qhu hpe he h1;exact ⟨(Here.hd g1).1,by rw [h2,<- g2];rfl⟩
  ·cases hr:Qam s pos e with
   | nil=>exact absurd hr hne
   | cons w r =>
     rw [hr,List.cons_append] at h1;injection h1 with _ h1;exact absurd (List.append_eq_nil_iff.1 h1.symm).2 h2
 rw [Qak,hn] at hh;simp only [] at hh;by_cases k1:n.kind=1
 ·rw [if_pos k1] at hh;simp only [] at hh;obtain ⟨c,r,hc,hop⟩:=Qjj n.num.toNat
  obtain ⟨hd,_⟩:=hd1 c r (by rw [<- hc];exact hh);rw [hd,if_neg (opN hop k (by rw [<- k1];exact ha)),if_pos hop];unfold Qde;have h4:=QvI (by unfold Qcb;omega) hh hy;rw [if_neg (by rw [h4];decide),h4];exact ⟨_,rfl⟩
 by_cases k2:n.kind=2
 ·rw [if_neg k1,if_pos k2] at hh;simp only [] at hh;obtain ⟨hd,_⟩:=hd1 13 (UInt8.ofNat n.str.length::n.str) hh;rw [hd,if_neg (opN (op:=2) (by decide) k (by rw [<- k2];exact ha)),if_neg (by decide),if_pos (by decide)];unfold Qde;have h4:=QvJ ((QgK hfl).1 k2) hh hy;rw [if_neg (by rw [h4];decide),h4];exact ⟨_,rfl⟩
 have pcut:∀ (single:Bool) (pos:Nat) (y:List UInt8),QaY n.str=true->Qbu n.str=Qam s pos e++y->y≠[]->Qcc s single false pos e = .no 4:=fun single pos y hpo h hy=>by
  have h4:=Qt9 hpo h hy;unfold Qcc;rw [if_neg (by rw [h4];decide),h4];rfl
 by_cases k3:n.kind=3
 ·rw [if_neg k1,if_neg k2,if_pos k3] at hh;simp only [] at hh;obtain ⟨hpo,hsi⟩:=Qhn hfl (.inl k3);obtain ⟨c,r,hc,hop⟩:=Qh5 hpo;obtain ⟨hd,_⟩:=hd1 c r (by rw [<- hc];exact hh);rw [hd,if_neg (opN hop k (by rw [<- k3];exact ha)),hop,if_neg (by decide),if_neg (by decide),if_pos rfl,pcut _ _ _ hpo hh hy];exact ⟨_,rfl⟩
 have k4:n.kind≠4:=by
  intro h4;have hc:∀ op∈Qej,op≠4:=by decide
  exact hc _ (Qhh ha) h4
 rw [if_neg k1,if_neg k2,if_neg k3,if_neg k4] at hh;by_cases k67:n.kind=6\/n.kind=7
 ·rw [if_pos k67] at hh;simp only [] at hh;obtain ⟨_,h⟩:=hd1 _ _ hh;exact absurd (List.append_eq_nil_iff.1 h.symm).2 hy
 rw [if_neg k67] at hh;have k6:n.kind≠6:=fun h=>k67 (.inl h);have k7:n.kind≠7:=fun h=>k67 (.inr h);have hop:QaW (UInt8.ofNat (Qbd n.kind))=n.kind:=by
  rcases QoQ _ (Qhh ha) with h|h|h|h|h|h
  ·exact absurd h k1
  ·exact absurd h k2
  ·exact absurd h k3
  ·exact absurd h k6
  ·exact absurd h k7
  ·exact h
 have hlt:pos+1<=e:=by omega
 have hnode:∀ (C:List UInt8),UInt8.ofNat (Qbd n.kind)::C=Qam s pos e++y->(∃ q,Qb0 s (Qaw s f) n.kind false (pos+1) e = .no q 4)->∃ q,(if Qar k (QaW (s.getD pos 0))=false then DR.no pos 3
   else if QaW (s.getD pos 0)=1 then Qde false pos (QbD (Qam s pos e)).2.1 (QbD (Qam s pos e)).2.2 ⟨1,((QbD (Qam s pos e)).1:Nat),[],0⟩
   else if QaW (s.getD pos 0)=2 then Qde false pos (Qbq (Qam s pos e)).2.1 (Qbq (Qam s pos e)).2.2 ⟨2,0,(Qbq (Qam s pos e)).1,0⟩
   else if QaW (s.getD pos 0)=3 then (match Qcc s (k==115) false pos e with
    | .no err=>.no pos err
    | .ok q t=>.ok q [⟨3,0,t,0⟩])
   else if QaW (s.getD pos 0)=6 then .ok (pos+1) [⟨6,((s.getD pos 0).toNat:Int)-96,[],0⟩]
   else if QaW (s.getD pos 0)=7 then .ok (pos+1) [⟨7,((s.getD pos 0).toNat:Int)-104,[],0⟩]
   else Qb0 s (Qaw s f) (QaW (s.getD pos 0)) false (pos+1) e) = .no q 4:=fun C hC hx=>by
  obtain ⟨hd,_⟩:=hd1 _ _ hC;rw [hd,if_neg (opN hop k ha),hop,if_neg k1,if_neg k2,if_neg k3,if_neg k6,if_neg k7];exact hx
 have ccut:∀ (most c pos:Nat) (C y:List UInt8),c<=most->most<=255->UInt8.ofNat c::C=Qam s pos e++y->y≠[]->pos<=e->Qbf s most false pos e = .no 4\/(Qbf s most false pos e = .ok c/\C=Qam s (pos+1) e++y/\pos+1<=e):=fun most c pos C y hc hm h hy hpe=>by
  rcases Qht (A:=[UInt8.ofNat c]) (B:=C) h hy with ⟨a,h1,h2⟩|⟨z,h1,h2⟩
  ·obtain ⟨g1,g2,g3⟩:=Qhu hpe he h1;exact .inr ⟨Qho false hc hm g1,by rw [h2,<- g2];rfl,g3⟩
  ·left;have hnil:Qam s pos e=[]:=by
    cases hr:Qam s pos e with
    | nil=>rfl
    | cons w r =>
      rw [hr,List.cons_append] at h1;injection h1 with _ h1;exact absurd (List.append_eq_nil_iff.1 h1.symm).2 h2
   have:=congrArg List.length hnil;rw [Qbo hpe he,List.length_nil] at this;unfold Qbf;rw [if_pos (by omega)];rfl
 by_cases k5:n.kind=5
 ·rw [if_pos k5] at hh;simp only [] at hh;have hkr:=Qd9 hk (.inl k5);have h63:UInt8.ofNat (Qbd n.kind)=63:=by rw [k5];decide
  refine hnode _ (by rw [h63];exact hh) ?_;obtain ⟨_,hh1⟩:=hd1 _ _ hh;obtain ⟨hpo,_⟩:=Qhn hfl (.inr k5);have hle:=hkc.2.2.1 k5;have hm:n.pos.toNat=ks.length:=hkc.2.1;unfold Qb0;rw [if_pos k5];rcases Qht hh1 hy with ⟨a,h1,h2⟩|⟨c,h1,h2⟩
  ·obtain ⟨g1,g2,g3⟩:=Qhu hlt he h1;rw [QlB false false hpo (fun h=>by cases h) g1];simp only [];rcases ccut 7 n.pos.toNat _ _ y (by omega) (by omega) (by rw [g2];exact h2) hy g3 with h|⟨h,h',h''⟩
   ·rw [h];exact ⟨_,rfl⟩
   ·rw [h];simp only [];rw [<- hkr];obtain ⟨q,hq⟩:=QfH hs hp hE hB e he ks (i+1) j _ y hx (by rw [<- hm];exact h') hy h'' (by omega);rw [hq];exact ⟨_,rfl⟩
  ·rw [pcut false (pos+1) c hpo h1 h2];exact ⟨_,rfl⟩
 by_cases k33:n.kind=33
 ·rw [if_neg k5,if_pos k33] at hh;simp only [] at hh;have hkr:=Qd9 hk (.inr k33);have h63:UInt8.ofNat (Qbd n.kind)=115:=by rw [k33];decide
  refine hnode _ (by rw [h63];exact hh) ?_;obtain ⟨_,hh1⟩:=hd1 _ _ hh;have hle:=hkc.2.2.2.1 k33;have hm:n.pos.toNat=ks.length:=hkc.2.1;unfold Qb0;rw [if_neg k5,if_pos k33];rcases ccut 1 n.pos.toNat _ _ y (by omega) (by omega) hh1 hy hlt with h|⟨h,h',h''⟩
  ·rw [h];exact ⟨_,rfl⟩
  ·rw [h];simp only [];rw [<- hkr];obtain ⟨q,hq⟩:=QfH hs hp hE hB e he ks (i+1) j _ y hx (by rw [<- hm];exact h') hy h'' (by omega);rw [hq];exact ⟨_,rfl⟩
 by_cases k31:n.kind=31
 ·rw [if_neg k5,if_neg k33,if_pos k31] at hh;simp only [] at hh;obtain ⟨hks,hp23⟩:=Qnr hk k31;rw [hks] at hx;obtain ⟨q,hx1,hx2⟩:=Qhp _ _ _ _ _ hx;have hq:(QaB (Qak p d) 2 (i+1)).2=q:=QdU (fun b k i j h=>Qa7 p d b k i j h) 2 _ _ (Qn6 _ _ _ hx1);rw [hq] at hh;have h63:UInt8.ofNat (Qbd n.kind)=113:=by rw [k31];decide
  refine hnode _ (by rw [h63];exact hh) ?_;obtain ⟨_,hh1⟩:=hd1 _ _ hh;unfold Qb0;rw [if_neg k5,if_neg k33,if_pos k31];rcases Qht hh1 hy with ⟨a,h1,h2⟩|⟨c,h1,h2⟩
  ·obtain ⟨g1,g2,g3⟩:=Qhu hlt he h1;have hkd:=Qep (QeR hs hp d f).1 (QeR hs hp d f).2 false e [101,83] (i+1) q (pos+1) hx1 g1 (by omega);rw [hkd];simp only [List.length_cons,List.length_nil];rcases ccut 1 (n.pos-2).toNat _ _ y (by omega) (by omega) (by rw [g2];exact h2) hy g3 with h|⟨h,h',h''⟩
   ·rw [h];exact ⟨_,rfl⟩
   ·rw [h];simp only [];obtain ⟨q2,hq2⟩:=QfH hs hp hE hB e he (List.replicate (n.pos-2).toNat 83) q j _ y hx2 (by rw [List.length_replicate];exact h') hy h'' (by omega);simp only [Nat.zero_add] at hq2 |-;rw [hq2];exact ⟨_,rfl⟩
  ·obtain ⟨q2,hq2⟩:=QfH hs hp hE hB e he [101,83] (i+1) q (pos+1) c hx1 h1 h2 hlt (by omega);rw [hq2];exact ⟨_,rfl⟩
 rw [if_neg k5,if_neg k33,if_neg k31] at hh;simp only [] at hh;obtain ⟨hks,hpf⟩:=Qjk hk k5 k33 k31;refine hnode _ hh ?_;obtain ⟨_,hh1⟩:=hd1 _ _ hh;have hm:n.pos.toNat=ks.length:=hkc.2.1;unfold Qb0;rw [if_neg k5,if_neg k33,if_neg k31,<- hks];obtain ⟨q,hq⟩:=QfH hs hp hE hB e he ks (i+1) j (pos+1) y hx (by rw [<- hm];exact hh1) hy hlt (by omega);rw [hq];exact ⟨_,rfl⟩
theorem Qnt {p:List Nd} {s:List UInt8} (hs:s.length<=1000000) (hp:Qge p) (hpl:p.length<=2048):∀ (d f:Nat),PxE p s d f/\PxB p s d f
 | 0,f=>⟨fun k i j pos e y hv=>(by rw [Qan] at hv;cases hv),fun k i j pos e y hv=>(by rw [Qan] at hv;cases hv)⟩
 | d+1,0=>⟨fun k i j pos e y hv hh hy hp he hf=>(by omega),fun k i j pos e y hv hh hy hp he hf=>(by omega)⟩
 | d + 1, f + 1 => ⟨Qua hs hp (Qnt hs hp hpl d f).1 (Qnt hs hp hpl d f).2, Qsh hs (fun b k i j h => by
     have h1:=Qnc h;have h2:=Qau p (d+1) b k i j h;have:257 * (j-i)<=257 * 2048:=Nat.mul_le_mul_left _ (by omega);omega)⟩
theorem QvL {p:List Nd} {x y:List UInt8} (hp:Qge p) (hpl:p.length<=2048) (hv:Qan p 32 false 68 0=some p.length) (h:(Qak p 32 0).1=x++y) (hy:y≠[]) (hx:x≠[]) (hl:x.length<=65536):∃ q:Int,QeV x=([],q,4):=by
 obtain ⟨q,hq⟩:=(Qnt (s:=x) (by omega) hp hpl 32 (x.length+1)).1 68 0 _ 0 x.length y hv (by rw [h];unfold Qam;simp) hy (Nat.zero_le _) Zc (by omega);refine ⟨(q:Nat),?_⟩;have:=List.length_pos_iff.2 hx;unfold QeV;rw [if_neg (by omega),QcW,if_neg (by omega),hq]<;>rfl
theorem QvM:QeV []=([],0,0):=by decide +kernel
theorem Qub {p:List Nd} {j:Nat} (hv:Qan p 32 false 68 0=some j) (hj:j=p.length):Qbe p p.length 0=(Qak p 32 0).1:=by
 have:=Qau p 32 false 68 0 j hv;obtain ⟨f,hf⟩:∃ f,p.length=f+1:=⟨p.length-1,by omega⟩;rw [hf,Qbe,if_neg (by omega),Qa7 p 32 false 68 0 j hv];cases f with
 | zero=>rw [Qbe,List.append_nil]
 | succ f=>rw [Qbe,if_pos (by omega),List.append_nil]
end
end Go.Proofs.YtoohondkpddmcaaGreatDoor
