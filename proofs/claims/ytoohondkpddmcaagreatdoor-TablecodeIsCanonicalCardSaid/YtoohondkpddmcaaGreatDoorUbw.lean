/- Ld -/
import Derived.Test.YtoohondkpddmcaaGreatDoorUzz
import Derived.Test.YtoohondkpddmcaaGreatDoorUap
import Derived.Test.YtoohondkpddmcaaGreatDoorUbv
import Derived.Test.YtoohondkpddmcaaGreatDoorUau
namespace Go.Proofs.YtoohondkpddmcaaGreatDoor
set_option linter.unusedVariables false
set_option linter.unusedSimpArgs false
open Go.RowKit
def Here (s:List UInt8) (pos e:Nat) (C:List UInt8):Prop:=pos<=e/\e<=s.length/\∃ t,Qam s pos e=C++t
theorem Here.len {s:List UInt8} {pos e:Nat} {C:List UInt8} (h:Here s pos e C):pos+C.length<=e:=by
 obtain ⟨h1,h2,t,h3⟩:=h;have:=congrArg List.length h3;rw [Qbo h1 h2,List.length_append] at this;omega
theorem Here.front {s:List UInt8} {pos e:Nat} {A B:List UInt8} (h:Here s pos e (A++B)):Here s pos e A:=by
 obtain ⟨h1,h2,t,h3⟩:=h;exact ⟨h1,h2,B++t,by rw [h3,List.append_assoc]⟩
theorem Here.next {s:List UInt8} {pos e:Nat} {A B:List UInt8} (h:Here s pos e (A++B)):Here s (pos+A.length) e B:=by
 have hl:=h.len;rw [List.length_append] at hl;obtain ⟨h1,h2,t,h3⟩:=h;refine ⟨by omega,h2,t,?_⟩;rw [QkR,h3,List.append_assoc,List.drop_left]
theorem Here.inner {s:List UInt8} {pos e:Nat} {A:List UInt8} (h:Here s pos e A):Here s pos (pos+A.length) A:=by
 have hl:=h.len;obtain ⟨h1,h2,t,h3⟩:=h;refine ⟨by omega,by omega,[],?_⟩;rw [QhW s pos e _ hl,h3,List.take_left,List.append_nil]
theorem Here.hd {s:List UInt8} {pos e:Nat} {c:UInt8} {C:List UInt8} (h:Here s pos e (c::C)):s.getD pos 0=c/\pos≠e/\Here s (pos+1) e C:=by
 have hl:=h.len;have hn:Here s (pos+1) e C:=Here.next (A:=[c]) h;rw [List.length_cons] at hl;obtain ⟨h1,h2,t,h3⟩:=h;refine ⟨?_,by omega,hn⟩;have h4:(Qam s pos e)[0]?=some c:=by rw [h3];rfl
 unfold Qam at h4;rw [List.getElem?_take,if_pos (by omega),List.getElem?_drop,Nat.add_zero] at h4;rw [List.getD_eq_getElem?_getD,h4];rfl
theorem Here.rest {s:List UInt8} {pos e:Nat} {C:List UInt8} (h:Here s pos e C):∃ t,Qam s pos e=C++t:=h.2.2
theorem Qjj (v:Nat):∃ c r,QaZ v=c::r/\QaW c=1:=by
 unfold QaZ;split
 ·next h =>
  refine ⟨_,[],rfl,?_⟩;have:v=0\/v=1:=by omega
  rcases this with rfl|rfl<;>decide
 split
 ·exact ⟨_,_,rfl,by decide⟩
 split
 ·exact ⟨_,_,rfl,by decide⟩
 split
 ·exact ⟨_,_,rfl,by decide⟩
 split
 ·exact ⟨_,_,rfl,by decide⟩
 ·exact ⟨_,_,rfl,by decide⟩
theorem Qxc (c:UInt8) (h:upB c=true):QaW c=3:=by
 have:∀ x:Fin 256,upB (UInt8.ofNat x.val)=true->QaW (UInt8.ofNat x.val)=3:=by decide +kernel
 have h2:=this ⟨c.toNat,c.toNat_lt⟩;rw [UInt8.ofNat_toNat] at h2;exact h2 h
theorem Qh5 {root:Bool} {up:Nat} {l:List (List UInt8)} (hv:QaD root up l=true):∃ c r,Qbg root up l=c::r/\QaW c=3:=by
 unfold QaD at hv;rw [Bool.and_eq_true,List.all_eq_true] at hv;obtain ⟨hp,ha⟩:=hv;unfold QfU at hp;have hp:=of_decide_eq_true hp;unfold Qbg;cases root with
 | true=>exact ⟨92,_,rfl,by decide⟩
 | false =>
   show ∃ c r,[]++List.replicate up 94++Qav l.length++l.flatMap Qci=c::r/\QaW c=3;rw [List.nil_append];cases up with
   | succ u=>exact ⟨94,_,rfl,by decide⟩
   | zero =>
     show ∃ c r,[]++Qav l.length++l.flatMap Qci=c::r/\QaW c=3;rw [List.nil_append]
     match l,ha,hp with
     | [],_,hp=>exact absurd hp.2.2.2.2 (by simp)
     | [x],ha,_ =>
       obtain ⟨c,r,rfl,hc⟩:=QpB (ha x (by simp));exact ⟨c,_,rfl,Qxc c hc⟩
     | [x,y],_,_=>exact ⟨46,_,rfl,by decide⟩
     | x::y::z::r,_,_=>exact ⟨47,_,rfl,by decide⟩
theorem QoQ:∀ op∈Qej,op=1\/op=2\/op=3\/op=6\/op=7\/(QaW (UInt8.ofNat (Qbd op))=op):=by decide +kernel
theorem Qt1:∀ v:Fin 8,QaW (UInt8.ofNat (96+v.val))=6/\(UInt8.ofNat (96+v.val)).toNat=96+v.val:=by decide
theorem Qt2:∀ v:Fin 7,QaW (UInt8.ofNat (104+v.val))=7/\(UInt8.ofNat (104+v.val)).toNat=104+v.val:=by decide
theorem Qgl {n:Nat} (h:n<268435452):1<=(QaP (n:Nat)).length:=by
 unfold QaP;rw [if_neg (by omega)]
 repeat' split
 all_goals first|(exfalso;omega)|(unfold QbX;rw [List.length_cons];omega)|(rw [List.length_cons];omega)
section
variable {p:List Nd}
theorem Qnq {d:Nat} {b:Bool} {k:UInt8} {i j:Nat} (hv:Qan p d b k i=some j):1<=(Qak p d i).1.length:=by
 cases d with
 | zero=>rw [Qan] at hv;cases hv
 | succ d =>
   obtain ⟨n,hn,hnv,hc⟩:=Qf2 hv;rw [Qak,hn];simp only [];split
   ·obtain ⟨c,r,h,_⟩:=Qjj n.num.toNat
    show 1<=(QaZ n.num.toNat).length;rw [h,List.length_cons];omega
   split
   ·show 1<=(Qco n.str).length;rw [Qef];omega
   split
   ·next h3 =>
    obtain ⟨c,r,h,_⟩:=Qh5 (hnv.path (.inl h3));show 1<=(Qbu n.str).length;unfold Qbu;rw [h,List.length_cons];omega
   split
   ·generalize (QaB (Qak p d) n.pos.toNat (i+1)).1=L;show 1<=(QaP (L.length:Nat)++L:List UInt8).length;rw [List.length_append];by_cases h:268435452<=L.length
    ·omega
    ·have:=Qgl (n:=L.length) (by omega);omega
   split
   ·exact Nat.le_refl 1
   split
   ·show 1<=(_::_:List UInt8).length;rw [List.length_cons];omega
   split
   ·show 1<=(_::_:List UInt8).length;rw [List.length_cons];omega
   split
   ·show 1<=(_::_:List UInt8).length;rw [List.length_cons];omega
   ·show 1<=(_::_:List UInt8).length;rw [List.length_cons];omega
end
def PdE (p:List Nd) (s:List UInt8) (d f:Nat):Prop:=∀ (k:UInt8) (i j:Nat) (inner:Bool) (pos e:Nat),Qan p d false k i=some j->Here s pos e (Qak p d i).1->s.length<pos+f->Qaw s f k inner pos e = .ok (pos+(Qak p d i).1.length) (seg p i j)
def PdB (p:List Nd) (s:List UInt8) (d f:Nat):Prop:=∀ (k:UInt8) (i j:Nat) (inner:Bool) (pos e:Nat),Qan p d true k i=some j->Here s pos e (Qak p d i).1->s.length<pos+f->Qdl s (Qaw s f) k inner pos e = .ok (pos+(Qak p d i).1.length) (seg p i j)
theorem Qep {p:List Nd} {s:List UInt8} {d f:Nat} (hE:PdE p s d f) (hB:PdB p s d f) (inner:Bool) (e:Nat):∀ (ks:List UInt8) (i j pos:Nat),QaT (fun k j=>Qan p d (QaQ k) k j) ks i=some j ->
  Here s pos e (QaB (Qak p d) ks.length i).1->s.length<pos+f->QaU (Qat s (Qaw s f) inner e) ks pos = .ok (pos+(QaB (Qak p d) ks.length i).1.length) (seg p i j)
 | [],i,j,pos,h,hh,hf=>by
   rw [QaT] at h;injection h with h;subst h;rw [QaU,Qj9];rfl
 | k::ks,i,j,pos,h,hh,hf=>by
   rw [QaT] at h;cases hx:Qan p d (QaQ k) k i with
   | none=>rw [hx] at h;cases h
   | some q =>
     rw [hx] at h;rw [List.length_cons,QaB] at hh |-;simp only [Qa7 p d (QaQ k) k i q hx] at hh |-;have hc:Qat s (Qaw s f) inner e k pos = .ok (pos+(Qak p d i).1.length) (seg p i q):=by
      unfold Qat
      split
      ·next hb=>rw [hb] at hx;exact hB k i q inner pos e hx hh.front hf
      ·next hb =>
       have hb':QaQ k=false:=by simpa using hb
       rw [hb'] at hx;exact hE k i q inner pos e hx hh.front hf
     have hr:=Qep hE hB inner e ks q j _ h hh.next (by omega);have h1:=Qau p d (QaQ k) k i q hx;have h2:=Qdi (fun k i j=>Qau p d (QaQ k) k i j) ks q j h h1.2;rw [QaU,hc];unfold Qmo;simp only [hr];rw [QiM p (by omega) h2.1,List.length_append,Nat.add_assoc]
theorem QmO {p:List Nd} {s:List UInt8} {d f:Nat} (hE:PdE p s d f) (k:UInt8) (e:Nat):∀ (m i j pos F c:Nat) (ns:List Nd),Qbn (Qan p d false k) m i=some j->Here s pos e (QaB (Qak p d) m i).1->pos+(QaB (Qak p d) m i).1.length=e ->
  s.length<pos+f->s.length<pos+F->QbQ (fun q=>Qaw s f k true q e) e F c ns pos = .ok e (⟨4,0,[],(c+m:Nat)⟩::(ns++seg p i j))
 | 0,i,j,pos,F,c,ns,h,hh,he,hf,hF=>by
   rw [Qbn] at h;injection h with h;subst h;rw [QaB] at he;simp only [List.length_nil,Nat.add_zero] at he;have hl:=hh.2.1;cases F with
   | zero=>have:=hh.1;omega
   | succ F=>rw [QbQ,if_pos he,Qj9,List.append_nil,he,Nat.add_zero]
 | m+1,i,j,pos,F,c,ns,h,hh,he,hf,hF=>by
   rw [Qbn] at h;cases hx:Qan p d false k i with
   | none=>rw [hx] at h;cases h
   | some q =>
     rw [hx] at h;rw [QaB] at hh he;simp only [Qa7 p d false k i q hx] at hh he;rw [List.length_append] at he;have hp1:=Qnq hx;have hl:=hh.2.1;cases F with
     | zero=>have:=hh.1;omega
     | succ F =>
       rw [QbQ,if_neg (by omega)];simp only [hE k i q true pos e hx hh.front hf];have h1:=Qau p d false k i q hx;have h2:=QfX (fun i j=>Qau p d false k i j) m q j h h1.2;rw [QmO hE k e m q j _ F (c+1) (ns++seg p i q) h hh.next (by omega) (by omega) (by omega),List.append_assoc,QiM p (by omega) h2.1,show c+1+m=c+(m+1) by omega]
theorem Qe1 (n:Nd):n=⟨n.kind,n.num,n.str,n.pos⟩:=rfl
theorem Qsf {p:List Nd} {s:List UInt8} {d f:Nat} (hs:s.length<=1000000) (hE:PdE p s d f):PdB p s (d+1) f:=by
 intro k i j inner pos e hv hh hf;have hjl:=Qau p (d+1) true k i j hv;obtain ⟨n,hn,⟨h4,h0,hst,hps⟩,hx⟩:=Qg5 hv;have hlt:i+1<=p.length:=by have:=(List.getElem?_eq_some_iff.1 hn).1;omega
 have henc:(Qak p (d+1) i).1=QaP ((QaB (Qak p d) n.pos.toNat (i+1)).1.length:Nat)++(QaB (Qak p d) n.pos.toNat (i+1)).1:=by
  rw [Qak,hn];simp only [h4];rfl
 rw [henc] at hh |-;obtain ⟨Bd,hBd⟩:∃ z,(QaB (Qak p d) n.pos.toNat (i+1)).1=z:=⟨_,rfl⟩;have hl:=hh.len;have hel:=hh.2.1;rw [hBd] at hh hl |-;rw [List.length_append] at hl |-;have hp1:=Qgl (n:=Bd.length) (by omega);obtain ⟨t,ht⟩:=hh.rest;have hr:QbE (Qam s pos e)=(((Bd.length:Nat):Int),(QaP (Bd.length:Nat)).length,0):=by
  rw [ht,List.append_assoc,QiZ _ _ (by intro h;rw [h] at hp1;simp at hp1)]
 have hi:=hh.next.inner;unfold Qdl;simp only [hr,if_true,Int.toNat_natCast];rw [if_neg (by omega)];rw [QmO hE k _ n.pos.toNat (i+1) j _ _ 0 [] hx (by rw [hBd];exact hi) (by rw [hBd]) (by omega) (by omega)];have hj:=QfX (fun i j=>Qau p d false k i j) _ _ _ hx hlt;rw [QoP hn hj.1,List.nil_append,Nat.zero_add,Nat.add_assoc]
 congr 2
 rw [Qe1 n,h4,h0,hst]
 congr 1
 show ((n.pos.toNat:Nat):Int)=n.pos;omega
theorem Qh6 {n:Nd} {k:UInt8} (h:Qa5 n k=true) (h1:n.kind≠1) (h6:n.kind≠6) (h7:n.kind≠7):n.num=0:=by
 unfold Qa5 at h;rw [Bool.and_eq_true,if_neg h1,if_neg h6,if_neg h7,beq_iff_eq] at h;exact h.1
theorem Qdr {n:Nd} {k:UInt8} (h:Qa5 n k=true) (h2:n.kind≠2) (h3:n.kind≠3) (h5:n.kind≠5):n.str=[]:=by
 unfold Qa5 at h;rw [Bool.and_eq_true,if_neg (show ¬(n.kind=3\/n.kind=5) from fun h=>h.elim h3 h5),if_neg h2,beq_iff_eq] at h;exact h.2
theorem Qhn {n:Nd} {k:UInt8} (h:Qa5 n k=true) (h3:n.kind=3\/n.kind=5):QaY n.str=true/\(k=115->Qfj n.str=true):=by
 unfold Qa5 at h;rw [Bool.and_eq_true,if_pos h3] at h;have h:=h.2;unfold Qec at h;rw [Bool.and_eq_true,Bool.or_eq_true,bne_iff_ne] at h;exact ⟨h.1,fun e=>h.2.elim (fun h=>absurd e h) id⟩
theorem QlB {s:List UInt8} {pos e:Nat} {x:List UInt8} (inner single:Bool) (h:QaY x=true) (h1:single=true->Qfj x=true) (hh:Here s pos e (Qbu x)):Qcc s single inner pos e = .ok (pos+(Qbu x).length) x:=by
 obtain ⟨t,ht⟩:=hh.rest;have hr:QaA (Qam s pos e)=⟨QaO x,Qbm x,QaF x,(Qbu x).length,0⟩:=by
  rw [ht];exact QkM _ _ _ _ h
 unfold Qcc;simp only [hr,if_true];rw [if_neg,Qni h];rintro ⟨hs,hx⟩;have:=h1 hs;unfold Qfj at this;simp only [Bool.and_eq_true,Bool.not_eq_true',decide_eq_true_eq] at this;rcases hx with hx|hx|hx
 ·rw [this.1.1] at hx;cases hx
 ·omega
 ·exact hx this.2
theorem Qho {s:List UInt8} {pos e most c:Nat} {C:List UInt8} (inner:Bool) (hc:c<=most) (hm:most<=255) (hh:Here s pos e (UInt8.ofNat c::C)):Qbf s most inner pos e = .ok c:=by
 obtain ⟨h1,h2,_⟩:=hh.hd;have e1:(UInt8.ofNat c).toNat=c:=by simp;omega
 unfold Qbf;rw [if_neg h2,h1,e1,if_neg (by omega)]
theorem Qd9 {n:Nd} {ks:List UInt8} (hk:QbH n=some ks) (h5:n.kind=5\/n.kind=33):ks=List.replicate n.pos.toNat 101:=by
 unfold QbH at hk;rcases h5 with h5|h5
 ·rw [if_pos h5] at hk;split at hk
  ·injection hk with hk;exact hk.symm
  ·cases hk
 ·rw [if_neg (by omega),if_pos h5] at hk;split at hk
  ·injection hk with hk;exact hk.symm
  ·cases hk
theorem Qnr {n:Nd} {ks:List UInt8} (hk:QbH n=some ks) (h5:n.kind=31):ks=[101,83]++List.replicate (n.pos-2).toNat 83/\(n.pos=2\/n.pos=3):=by
 have hp:=(QgJ hk).2.2.2.2.1 h5;unfold QbH at hk;rw [if_neg (by omega),if_neg (by omega)] at hk;rcases hp with hp|hp
 ·rw [if_neg (by omega)] at hk;split at hk
  ·injection hk with hk;rw [h5] at hk;rw [<- hk,hp];exact ⟨by decide,.inl rfl⟩
  ·cases hk
 ·rw [if_pos ⟨h5,hp⟩] at hk;injection hk with hk;rw [<- hk,hp];exact ⟨by decide,.inr rfl⟩
theorem Qjk {n:Nd} {ks:List UInt8} (hk:QbH n=some ks) (h5:n.kind≠5) (h33:n.kind≠33) (h31:n.kind≠31):ks=(QaE n.kind).2/\n.pos=((QaE n.kind).2.length:Nat):=by
 unfold QbH at hk;rw [if_neg h5,if_neg h33,if_neg (fun h=>h31 h.1)] at hk;split at hk
 ·next h=>injection hk with hk;exact ⟨hk.symm,h.symm⟩
 ·cases hk
theorem Qhp (f:UInt8->Nat->Option Nat):∀ (a b:List UInt8) (i j:Nat),QaT f (a++b) i=some j->∃ q,QaT f a i=some q/\QaT f b q=some j
 | [],b,i,j,h=>⟨i,by rw [QaT],h⟩
 | k::a,b,i,j,h=>by
   rw [List.cons_append,QaT] at h;cases hx:f k i with
   | none=>rw [hx] at h;cases h
   | some q =>
     rw [hx] at h;obtain ⟨r,h1,h2⟩:=Qhp f a b q j h;exact ⟨r,by rw [QaT,hx];exact h1,h2⟩
theorem opN {c:UInt8} {op:Int} (h:QaW c=op) (k:UInt8) (ha:Qar k op=true):¬ Qar k (QaW c)=false:=by rw [h,ha];decide
theorem Qt3 {p:List Nd} {s:List UInt8} {d f:Nat} (hs:s.length<=1000000) (hp:Qge p) (hE:PdE p s d f) (hB:PdB p s d f):PdE p s (d+1) (f+1):=by
 intro k i j inner pos e hv hh hf;have hjl:=Qau p (d+1) false k i j hv;obtain ⟨n,ks,hn,ha,hfl,hk,hx⟩:=Qg4 hv;have hlt:i+1<=p.length:=by have:=(List.getElem?_eq_some_iff.1 hn).1;omega
 have hnum:=hp n (List.mem_of_getElem? hn);have hkc:=QgJ hk;have hleaf:n.pos=0->seg p i j=[n]:=fun h0=>by
  have h1:ks=[]:=List.eq_nil_of_length_eq_zero (by omega);rw [h1,QaT] at hx;injection hx with hx;rw [<- hx];exact QqD hn
 have hseg:seg p i j=n::seg p (i+1) j:=QoP hn (Qdi (fun k i j=>Qau p d (QaQ k) k i j) ks _ _ hx hlt).1;rw [Qaw];rw [Qak,hn] at hh |-;simp only [] at hh |-;by_cases k1:n.kind=1
 ·rw [if_pos k1] at hh |-;simp only [] at hh |-;obtain ⟨c,r,hc,hop⟩:=Qjj n.num.toNat
  have hh':=hh;rw [hc] at hh';obtain ⟨hd,hne,_⟩:=hh'.hd;obtain ⟨t,ht⟩:=hh.rest;have hr:QbD (Qam s pos e)=(n.num.toNat,(QaZ n.num.toNat).length,0):=by rw [ht];exact Qmm _ _ (by unfold Qcb;omega)
  unfold Qbw;rw [if_neg hne,hd,if_neg (opN hop k (by rw [<- k1];exact ha)),if_pos hop,hr];unfold Qde;rw [if_pos rfl,hleaf (hkc.2.2.2.2.2 (.inl k1))]
  congr 2
  rw [Qe1 n,k1,Qdr hfl (by omega) (by omega) (by omega),hkc.2.2.2.2.2 (.inl k1)]
  congr 1
  show ((n.num.toNat:Nat):Int)=n.num;omega
 by_cases k2:n.kind=2
 ·rw [if_neg k1,if_pos k2] at hh |-;simp only [] at hh |-;obtain ⟨hd,hne,_⟩:=Here.hd (c:=13) (C:=UInt8.ofNat n.str.length::n.str) hh;obtain ⟨t,ht⟩:=hh.rest;have hr:Qbq (Qam s pos e)=(n.str,n.str.length+2,0):=by rw [ht];exact Ql9 _ _ ((QgK hfl).1 k2)
  unfold Qbw;rw [if_neg hne,hd,if_neg (opN (op:=2) (by decide) k (by rw [<- k2];exact ha)),if_neg (by decide),if_pos (by decide),hr];unfold Qde;rw [if_pos rfl,hleaf (hkc.2.2.2.2.2 (.inr (.inl k2))),Qef]
  congr 2
  rw [Qe1 n,k2,Qh6 hfl (by omega) (by omega) (by omega),hkc.2.2.2.2.2 (.inr (.inl k2))]
 by_cases k3:n.kind=3
 ·rw [if_neg k1,if_neg k2,if_pos k3] at hh |-;simp only [] at hh |-;obtain ⟨hpo,hsi⟩:=Qhn hfl (.inl k3);obtain ⟨c,r,hc,hop⟩:=Qh5 hpo;have hh':=hh;unfold Qbu at hh';rw [hc] at hh';obtain ⟨hd,hne,_⟩:=hh'.hd;unfold Qbw;rw [if_neg hne,hd,if_neg (opN hop k (by rw [<- k3];exact ha)),hop,if_neg (by decide),if_neg (by decide),if_pos rfl,QlB inner (k==115) hpo (fun h=>hsi (beq_iff_eq.1 h)) hh];simp only [];rw [hleaf (hkc.2.2.2.2.2 (.inr (.inr (.inl k3))))]
  congr 2
  rw [Qe1 n,k3,Qh6 hfl (by omega) (by omega) (by omega),hkc.2.2.2.2.2 (.inr (.inr (.inl k3)))]
 have k4:n.kind≠4:=by
  intro h4;have hc:∀ op∈Qej,op≠4:=by decide
  exact hc _ (Qhh ha) h4
 rw [if_neg k1,if_neg k2,if_neg k3,if_neg k4] at hh |-;by_cases k6:n.kind=6
 ·rw [if_pos (.inl k6)] at hh |-;simp only [k6] at hh |-;obtain ⟨hd,hne,_⟩:=hh.hd;have hlo:=(QgK hfl).2.2.1 k6;have hcd:=Qt1 ⟨n.num.toNat,by omega⟩;simp only [] at hcd;rw [show Qbd 6=96 from by decide] at hd;unfold Qbw;rw [if_neg hne,hd,if_neg (opN hcd.1 k (by rw [<- k6];exact ha)),hcd.1,if_neg (by decide),if_neg (by decide),if_neg (by decide),if_pos rfl,hleaf (hkc.2.2.2.2.2 (by omega)),hcd.2]
  congr 2
  rw [Qe1 n,k6,Qdr hfl (by omega) (by omega) (by omega),hkc.2.2.2.2.2 (by omega)]
  congr 1
  show ((96+n.num.toNat:Nat):Int)-96=n.num;omega
 by_cases k7:n.kind=7
 ·rw [if_pos (.inr k7)] at hh |-;simp only [k7] at hh |-;obtain ⟨hd,hne,_⟩:=hh.hd;have hlo:=(QgK hfl).2.2.2 k7;have hcd:=Qt2 ⟨n.num.toNat,by omega⟩;simp only [] at hcd;rw [show Qbd 7=104 from by decide] at hd;unfold Qbw;rw [if_neg hne,hd,if_neg (opN hcd.1 k (by rw [<- k7];exact ha)),hcd.1,if_neg (by decide),if_neg (by decide),if_neg (by decide),if_neg (by decide),if_pos rfl,hleaf (hkc.2.2.2.2.2 (by omega)),hcd.2]
  congr 2
  rw [Qe1 n,k7,Qdr hfl (by omega) (by omega) (by omega),hkc.2.2.2.2.2 (by omega)]
  congr 1
  show ((104+n.num.toNat:Nat):Int)-104=n.num;omega
 rw [if_neg (fun h=>h.elim k6 k7)] at hh |-;have hop:QaW (UInt8.ofNat (Qbd n.kind))=n.kind:=by
  rcases QoQ _ (Qhh ha) with h|h|h|h|h|h
  ·exact absurd h k1
  ·exact absurd h k2
  ·exact absurd h k3
  ·exact absurd h k6
  ·exact absurd h k7
  ·exact h
 have hnode:∀ (C:List UInt8),Here s pos e (UInt8.ofNat (Qbd n.kind)::C)->Qbw s (Qaw s f) k inner pos e=Qb0 s (Qaw s f) n.kind inner (pos+1) e:=fun C hC=>by
  obtain ⟨hd,hne,_⟩:=hC.hd;unfold Qbw;rw [if_neg hne,hd,if_neg (opN hop k ha),hop,if_neg k1,if_neg k2,if_neg k3,if_neg k6,if_neg k7]
 have hn0:=Qh6 hfl k1 k6 k7;have hps:((n.pos.toNat:Nat):Int)=n.pos:=by have:=hkc.1;omega
 by_cases k5:n.kind=5
 ·rw [if_pos k5] at hh |-;simp only [] at hh |-;have hkr:=Qd9 hk (.inl k5);have h63:UInt8.ofNat (Qbd n.kind)=63:=by rw [k5];decide
  rw [hnode _ (by rw [h63];exact hh)];obtain ⟨_,_,hh1⟩:=hh.hd;obtain ⟨hpo,_⟩:=Qhn hfl (.inr k5);have hh2:=hh1.next;have hh3:=hh2.hd.2.2;have hle:=hkc.2.2.1 k5;unfold Qb0;rw [if_pos k5,QlB inner false hpo (fun h=>by cases h) hh1.front];simp only [];rw [Qho inner (by omega) (by omega) hh2];simp only [];rw [<- hkr];have hm:n.pos.toNat=ks.length:=hkc.2.1;rw [hm] at hh3 |-;rw [Qep hE hB inner e ks (i+1) j _ hx hh3 (by omega)];unfold Qfo;simp only [];rw [hseg,List.length_cons,List.length_append,List.length_cons]
  congr 1
  ·omega
  ·congr 1
   rw [Qe1 n,k5,hn0,<- hm,hps]
 by_cases k33:n.kind=33
 ·rw [if_neg k5,if_pos k33] at hh |-;simp only [] at hh |-;have hkr:=Qd9 hk (.inr k33);have h63:UInt8.ofNat (Qbd n.kind)=115:=by rw [k33];decide
  rw [hnode _ (by rw [h63];exact hh)];obtain ⟨_,_,hh2⟩:=hh.hd;have hh3:=hh2.hd.2.2;have hle:=hkc.2.2.2.1 k33;unfold Qb0;rw [if_neg k5,if_pos k33,Qho inner (by omega) (by omega) hh2];simp only [];rw [<- hkr];have hm:n.pos.toNat=ks.length:=hkc.2.1;rw [hm] at hh3 |-;rw [Qep hE hB inner e ks (i+1) j _ hx hh3 (by omega)];unfold Qfo;simp only [];rw [hseg,List.length_cons,List.length_cons]
  congr 1
  ·omega
  ·congr 1
   rw [Qe1 n,k33,hn0,Qdr hfl k2 k3 k5,<- hm,hps]
 by_cases k31:n.kind=31
 ·rw [if_neg k5,if_neg k33,if_pos k31] at hh |-;simp only [] at hh |-;obtain ⟨hks,hp23⟩:=Qnr hk k31;rw [hks] at hx;obtain ⟨q,hx1,hx2⟩:=Qhp _ _ _ _ _ hx;have hq:(QaB (Qak p d) 2 (i+1)).2=q:=QdU (fun b k i j h=>Qa7 p d b k i j h) 2 _ _ (Qn6 _ _ _ hx1);rw [hq] at hh |-;have h63:UInt8.ofNat (Qbd n.kind)=113:=by rw [k31];decide
  rw [hnode _ (by rw [h63];exact hh)];obtain ⟨_,_,hh1⟩:=hh.hd;have hh2:=hh1.next;have hh3:=hh2.hd.2.2;have hq1:=Qdi (fun k i j=>Qau p d (QaQ k) k i j) _ _ _ hx1 hlt;have hq2:=Qdi (fun k i j=>Qau p d (QaQ k) k i j) _ _ _ hx2 hq1.2;unfold Qb0;rw [if_neg k5,if_neg k33,if_pos k31,Qep hE hB inner e [101,83] (i+1) q (pos+1) hx1 hh1.front (by omega)];simp only [];have hcd:=Qho (c:=(n.pos-2).toNat) (most:=1) inner (by omega) (by omega) hh2;simp only [List.length_cons,List.length_nil] at hcd |-;rw [hcd];simp only [];have hkd:=Qep hE hB inner e (List.replicate (n.pos-2).toNat 83) q j _ hx2 (by rw [List.length_replicate];exact hh3) (by omega);rw [List.length_replicate] at hkd;rw [hkd];simp only [];rw [hseg,List.length_append,List.length_cons,QiM p hq1.1 hq2.1]
  congr 1
  ·omega
  ·congr 1
   rw [Qe1 n,k31,hn0,Qdr hfl k2 k3 k5]
   congr 1
   show ((2+(n.pos-2).toNat:Nat):Int)=n.pos;omega
 rw [if_neg k5,if_neg k33,if_neg k31] at hh |-;simp only [] at hh |-;obtain ⟨hks,hpf⟩:=Qjk hk k5 k33 k31;rw [hnode _ hh];obtain ⟨_,_,hh1⟩:=hh.hd;have hm:n.pos.toNat=ks.length:=hkc.2.1;rw [hm] at hh1 |-;unfold Qb0;rw [if_neg k5,if_neg k33,if_neg k31,<- hks,Qep hE hB inner e ks (i+1) j _ hx hh1 (by omega)];unfold Qfo;simp only [];rw [hseg,List.length_cons]
 congr 1
 ·omega
 ·congr 1
  rw [Qe1 n,hn0,Qdr hfl k2 k3 k5,<- hm,hps]
theorem QeR {p:List Nd} {s:List UInt8} (hs:s.length<=1000000) (hp:Qge p):∀ (d f:Nat),PdE p s d f/\PdB p s d f
 | 0,f=>⟨fun k i j inner pos e hv=>(by rw [Qan] at hv;cases hv),fun k i j inner pos e hv=>(by rw [Qan] at hv;cases hv)⟩
 | d+1,0=>⟨fun k i j inner pos e hv hh hf=>absurd hh.1 (by have:=hh.2.1;omega),fun k i j inner pos e hv hh hf=>absurd hh.1 (by have:=hh.2.1;omega)⟩
 | d+1,f+1=>⟨Qt3 hs hp (QeR hs hp d f).1 (QeR hs hp d f).2,Qsf hs (QeR hs hp d (f+1)).1⟩
theorem QqE {p:List Nd} {s:List UInt8} (hs:s.length<=1000000) (hp:Qge p):∀ (f i F pos:Nat) (ns:List Nd),QbT p f i=true->i<=p.length->Here s pos s.length (Qbe p f i)->pos+(Qbe p f i).length=s.length->s.length<pos+F->QcW s F ns pos = .ok s.length (ns++seg p i p.length)
 | f,i,0,pos,ns,h,hi,hh,hl,hF=>by have:=hh.1;omega
 | 0,i,F+1,pos,ns,h,hi,hh,hl,hF=>by
   rw [QbT] at h;have hi2:=of_decide_eq_true h;rw [Qbe] at hl;simp only [List.length_nil,Nat.add_zero] at hl;rw [QcW,if_pos hl,hl,show i=p.length by omega,Qj9,List.append_nil]
 | f+1,i,F+1,pos,ns,h,hi,hh,hl,hF=>by
   rw [Qbe] at hh hl;rw [QbT] at h;by_cases hi2:p.length<=i
   ·rw [if_pos hi2] at hl;simp only [List.length_nil,Nat.add_zero] at hl;rw [QcW,if_pos hl,hl,show i=p.length by omega,Qj9,List.append_nil]
   ·rw [if_neg hi2] at h hh hl;cases hx:Qan p 32 false 68 i with
    | none=>rw [hx] at h;cases h
    | some j =>
      rw [hx] at h;simp only [Qa7 p 32 false 68 i j hx] at hh hl;rw [List.length_append] at hl;have hp1:=Qnq hx;have hg:=Qau p 32 false 68 i j hx;rw [QcW,if_neg (by omega)];simp only [(QeR hs hp 32 (s.length+1)).1 68 i j false pos s.length hx hh.front (by omega)];rw [QqE hs hp f j F _ _ h hg.2 hh.next (by omega) (by omega),List.append_assoc,QiM p (by omega) hg.2]
theorem QvG (p:List Nd):seg p 0 p.length=p:=by unfold seg;simp
theorem Qt4 {p:List Nd} (hv:QaS p=true) (hp:Qge p) (hl:(Qbe p p.length 0).length<=65536):QeV (Qbe p p.length 0)=(p,0,0):=by
 have hv':=hv;unfold QaS at hv';rw [Bool.and_eq_true,decide_eq_true_eq] at hv';unfold QeV;rw [if_neg (by omega),QqE (by omega) hp p.length 0 _ 0 [] hv'.2 (Nat.zero_le _) ⟨Nat.zero_le _,Nat.le_refl _,[],by unfold Qam;simp⟩ (by omega) (by omega),List.nil_append,QvG];unfold QpG;simp only [];rw [if_pos hv]
end Go.Proofs.YtoohondkpddmcaaGreatDoor
