/- Le Lb Lc -/
import Derived.Test.YtoohondkpddmcaaGreatDoorYzz
import Derived.Test.YtoohondkpddmcaaGreatDoorYar
import Derived.Test.YtoohondkpddmcaaGreatDoorYak
namespace Go.Proofs.YtoohondkpddmcaaGreatDoor
set_option maxHeartbeats 32000000
set_option linter.unusedVariables false
set_option linter.unusedSimpArgs false
section
open Go.RowKit
theorem Qe8 {c:UInt8} {n least:Nat} (hf:Form c n least) (r:List UInt8) (v m:Nat) (h:Qbt r n least=(v,m,0)):QaX v=(c::r).take m/\m<=r.length+1/\1<=m/\v<=Qce:=by
 unfold Qbt at h;split at h
 ·simp at h
 ·split at h
  ·simp at h
  ·next h1 h2 =>
   simp only [Prod.mk.injEq,and_true] at h;obtain ⟨rfl,rfl⟩:=h;have hl:(r.take n).length=n:=by rw [List.length_take];omega
   refine ⟨?_,by omega,by omega,?_⟩
   ·rw [QgW hf (r.take n) hl h2,Nat.add_comm,List.take_succ_cons]
   ·have:=Qhq (r.take n);rw [hl] at this;have h8:256 ^ n<=256 ^ 8:=Nat.pow_le_pow_right (by omega) (by rcases hf with h|h|h|h<;>omega);unfold Qce;have:(256:Nat) ^ 8=18446744073709551616:=by decide
    omega
theorem Qgs (s:List UInt8) (v m:Nat) (h:Qba s=(v,m,0)):QaX v=s.take m/\m<=s.length/\1<=m/\v<=Qce:=by
 cases s with
 | nil=>simp [Qba] at h
 | cons c r =>
   rcases Qhs c with rfl|rfl|rfl|rfl|rfl|rfl|rfl|hc
   ·have h:(0,1,0)=(v,m,0):=h;simp only [Prod.mk.injEq,and_true] at h;obtain ⟨rfl,rfl⟩:=h;exact ⟨rfl,by simp,by omega,by decide⟩
   ·have h:(1,1,0)=(v,m,0):=h;simp only [Prod.mk.injEq,and_true] at h;obtain ⟨rfl,rfl⟩:=h;exact ⟨rfl,by simp,by omega,by decide⟩
   ·have h:(Qce,1,0)=(v,m,0):=h;simp only [Prod.mk.injEq,and_true] at h;obtain ⟨rfl,rfl⟩:=h;exact ⟨show QaX Qce=[255] by decide,by simp,by omega,Nat.le_refl _⟩
   ·rw [Qrg] at h;exact Qe8 Form.one r v m h
   ·rw [Qrh] at h;exact Qe8 Form.two r v m h
   ·rw [Qri] at h;exact Qe8 Form.four r v m h
   ·rw [Qrj] at h;exact Qe8 Form.eight r v m h
   ·rw [Qfv c r hc] at h;simp at h
theorem Qgt (s v:List UInt8) (m:Nat) (h:Qbl s=(v,m,0)):Qdy v=s.take m/\m<=s.length/\1<=m/\v.length<=255:=by
 match s,h with
 | [],h=>simp [Qbl] at h
 | [c],h=>rw [Qbl] at h;split at h<;>simp at h
 | c::d::r,h =>
   rw [Qbl] at h;split at h
   ·next h1 =>
    split at h
    ·simp at h
    ·next h2 =>
     simp only [Prod.mk.injEq,and_true] at h;obtain ⟨rfl,rfl⟩:=h;have hl:(r.take d.toNat).length=d.toNat:=by rw [List.length_take];omega
     have hd:=d.toNat_lt;refine ⟨?_,by simp only [List.length_cons];omega,by omega,by omega⟩;unfold Qdy;rw [hl,show 2+d.toNat=d.toNat+1+1 by omega,List.take_succ_cons,List.take_succ_cons,UInt8.ofNat_toNat,show c=13 from Qh3 h1]
   ·simp at h
theorem Qfx {c:UInt8} {r:List UInt8} {k lim:Nat} (hf:Qma k lim) (hc:c.toNat / 64=k-1) (n:Int) (m:Nat) (h:Qbr c r k lim=(n,m,0)):Qa3 n=(c::r).take m/\m<=r.length+1/\1<=m/\0<=n:=by
 unfold Qbr at h;split at h
 ·simp at h
 split at h
 ·simp at h
 split at h
 ·simp at h
 ·next h48 hr hl =>
  simp only [Prod.mk.injEq,and_true] at h;obtain ⟨rfl,rfl⟩:=h;have hk:2<=k/\k<=4/\k+2<=lim:=by rcases hf with h|h|h<;>omega
  have hlt:(r.take (k-1)).length=k-1:=by rw [List.length_take];omega
  have hnl:=Qcf r (k-1) (by omega);have h48':c.toNat / 16 % 4=0:=by omega
  have hn:(((c.toNat % 16+16 * num (r.take (k-1)):Nat):Int)-(k:Int)+k).toNat=c.toNat % 16+16 * num (r.take (k-1)):=by omega
  refine ⟨?_,by omega,by omega,by omega⟩;have e256:((256:Int) ^ (k-1))=((256 ^ (k-1):Nat):Int):=by simp
  rw [Qh4 hf _ (by omega) (by rw [e256];omega),hn,Qjd hf c (r.take (k-1)) _ hlt hc h48' rfl];obtain ⟨k',rfl⟩:∃ k',k=k'+1:=⟨k-1,by omega⟩;rw [List.take_succ_cons,Nat.add_sub_cancel]
theorem Qe9 (s:List UInt8) (n:Int) (m:Nat) (h:Qbf s=(n,m,0)):Qa3 n=s.take m/\m<=s.length/\1<=m/\0<=n:=by
 cases s with
 | nil=>simp [Qbf] at h
 | cons c r =>
   have hc:=c.toNat_lt;by_cases h0:c.toNat=0
   ·rw [Qbf,if_pos h0] at h;simp at h
   by_cases h1:c.toNat<64
   ·rw [Qhx (by omega) h1] at h;simp only [Prod.mk.injEq,and_true] at h;obtain ⟨rfl,rfl⟩:=h;exact ⟨Qjf (by omega) h1,by simp,by omega,by omega⟩
   by_cases h2:c.toNat<128
   ·rw [Qjg (by omega) h2] at h;exact Qfx (.inl ⟨rfl,rfl⟩) (by omega) n m h
   by_cases h3:c.toNat<192
   ·rw [Qjh (by omega) h3] at h;exact Qfx (.inr (.inl ⟨rfl,rfl⟩)) (by omega) n m h
   ·rw [Qji (by omega)] at h;exact Qfx (.inr (.inr ⟨rfl,rfl⟩)) (by omega) n m h
theorem QkK {s:List UInt8} {m:Nat}:∀ (f k n:Nat),Qbq s m f k=some n->Qdz s m n=true/\k<=n/\n<k+f
 | 0,k,n,h=>by cases h
 | f+1,k,n,h=>by
   rw [Qbq] at h;split at h
   ·next hx=>injection h with h;subst h;exact ⟨hx,by omega,by omega⟩
   ·obtain ⟨a1,a2,a3⟩:=QkK f (k+1) n h;exact ⟨a1,by omega,by omega⟩
theorem QnC {s x:List UInt8} (h:Qb5 s=(x,0)):QaV x=true/\Qf1 x=s.take 4/\4<=s.length:=by
 rw [<- QkI] at h;unfold QbP at h;split at h
 ·next h4 =>
  split at h
  ·next n hn =>
   simp only [Prod.mk.injEq,and_true] at h;obtain ⟨h5,h6,h7⟩:=QkK _ _ _ hn;unfold Qdz at h5;rw [Bool.and_eq_true,beq_iff_eq] at h5;rw [<- h];have hl:(s.take n).length=n:=by rw [List.length_take];omega
   refine ⟨h5.1,?_,h4⟩;unfold Qf1;rw [hl,<- h5.2,<- List.take_add,show n+(4-n)=4 by omega]
  ·simp at h
 ·split at h
  ·simp at h
  ·split at h<;>simp at h
theorem Qh6 (s:List UInt8):∀ (n pos:Nat) (acc l:List (List UInt8)) (q:Nat),Qbn s n pos acc=(l,q,0)->pos<=s.length ->
  ∃ m,l=acc++m/\m.length=n/\q=pos+4 * n/\q<=s.length/\(∀ x∈m,QaV x=true)/\m.flatMap Qf1=(s.drop pos).take (4 * n)
 | 0,pos,acc,l,q,h,hp=>by
   rw [Qbn] at h;simp only [Prod.mk.injEq,and_true] at h;obtain ⟨rfl,rfl⟩:=h;exact ⟨[],by simp,rfl,rfl,hp,by simp,by simp⟩
 | n+1,pos,acc,l,q,h,hp=>by
   rw [Qbn] at h;split at h
   ·next h0 =>
    obtain ⟨x,hx⟩:∃ x,(Qb5 (s.drop pos)).1=x:=⟨_,rfl⟩;have hr:Qb5 (s.drop pos)=(x,0):=Prod.ext hx h0;obtain ⟨h1,h2,h3⟩:=QnC hr;rw [List.length_drop] at h3;rw [hx] at h;obtain ⟨m,rfl,h4,h5,h6,h7,h8⟩:=Qh6 s n (pos+4) (acc++[x]) l q h (by omega);refine ⟨x::m,by simp,by simp [h4],by omega,h6,?_,?_⟩
    ·intro y hy;rcases List.mem_cons.1 hy with rfl|hy
     ·exact h1
     ·exact h7 y hy
    ·rw [List.flatMap_cons,h2,h8,<- List.drop_drop,<- List.take_add,show 4+4 * n=4 * (n+1) by omega]
   ·next h0 =>
    simp only [Prod.mk.injEq] at h;exact absurd h.2.2 h0
theorem QnD {t:List UInt8} {most:Nat} {pre:Bool} {n m:Int} (hm:most<=32) (h:Qa0 t most pre=(n,m,0)):0<=n/\n<=most/\0<=m/\m.toNat<=t.length/\(n=0->pre=true)/\Qa8 n.toNat=t.take m.toNat:=by
 cases t with
 | nil=>simp [Qa0] at h
 | cons c r =>
   unfold Qa0 at h;dsimp only at h;split at h
   ·next h0 =>
    split at h
    ·next hp =>
     simp only [Prod.mk.injEq,and_true] at h;obtain ⟨rfl,rfl⟩:=h;rw [show c=0 from Qh3 h0];exact ⟨by omega,by omega,by omega,by simp,fun _=>hp,rfl⟩
    ·simp at h
   split at h
   ·next h46 =>
    split at h
    ·simp at h
    ·simp only [Prod.mk.injEq,and_true] at h;obtain ⟨rfl,rfl⟩:=h;rw [show c=46 from Qh3 h46];exact ⟨by omega,by omega,by omega,by simp,(fun h=>absurd h (by decide)),rfl⟩
   split at h
   ·next h47 =>
    split at h
    ·simp at h
    ·cases r with
     | nil=>simp [QcG] at h
     | cons d r =>
       rw [QcG] at h;split at h
       ·simp at h
       split at h
       ·simp at h
       ·next h3 hmo =>
        simp only [Prod.mk.injEq,and_true] at h;obtain ⟨rfl,rfl⟩:=h;rw [show c=47 from Qh3 h47];refine ⟨by omega,by omega,by omega,by simp,fun h=>by omega,?_⟩;rw [Int.toNat_natCast];unfold Qa8;rw [if_neg (by omega),if_neg (by omega),if_pos (by omega)];show 47::QaF d.toNat 1=[47,d]
        congr 1
        have:=Qgj [d];simpa [num] using this
   ·split at h
    ·simp at h
    ·simp only [Prod.mk.injEq,and_true] at h;obtain ⟨rfl,rfl⟩:=h;exact ⟨by omega,by omega,by omega,by simp,(fun h=>absurd h (by decide)),rfl⟩
theorem Qh7:∀ s:List UInt8,List.replicate (Qbo s) 94=s.take (Qbo s)
 | []=>rfl
 | c::r=>by
   rw [Qbo];split
   ·next h=>rw [List.replicate_succ,List.take_succ_cons,Qh7 r,show c=94 from Qh3 h]
   ·rfl
theorem Qf7 {s:List UInt8} {root:Bool} {up pos:Nat} (hpre:QbU root++List.replicate up 94=s.take pos) (hpl:pos<=s.length) (hr:root=true->up=0) (hp0:0<pos->root=true\/0<up) (h:(QaD s root up pos).err=0) :
  Qcl (QaD s root up pos).root (QaD s root up pos).up (QaD s root up pos).segs=s.take (QaD s root up pos).pos/\(QaD s root up pos).pos<=s.length/\QaI (QaD s root up pos).root (QaD s root up pos).up (QaD s root up pos).segs=true:=by
 by_cases h32:32<up
 ·unfold QaD at h;rw [if_pos h32] at h;cases h
 obtain ⟨n,m,er,hc⟩:∃ n m er,Qa0 (s.drop pos) (32-up) (decide (0<pos))=(n,m,er):=⟨_,_,_,rfl⟩;have hcast:((32:Int)-(up:Int))=((32-up:Nat):Int):=by omega
 by_cases her:er=0
 ·rw [her,hcast] at hc;obtain ⟨b1,b2,b3,b4,b5,b6⟩:=QnD (by omega) hc;rw [List.length_drop] at b4;obtain ⟨l,q,e2,hg⟩:∃ l q e2,Qbn s n.toNat (pos+m.toNat) []=(l,q,e2):=⟨_,_,_,rfl⟩;have hR:QaD s root up pos=if e2=0 then ⟨root,up,l,q,0⟩ else Qbi e2:=by
   unfold QaD;rw [if_neg h32];simp only [hcast,hc,hg,if_true]
  rw [hR] at h |-;by_cases he2:e2=0
  ·rw [if_pos he2];rw [he2] at hg;obtain ⟨m2,rfl,g1,g2,g3,g4,g5⟩:=Qh6 s _ _ _ _ _ hg (by omega);simp only [List.nil_append];refine ⟨?_,g3,?_⟩
   ·unfold Qcl;rw [hpre,g5,g1,b6,g2,<- List.take_add,<- List.drop_drop,List.drop_drop,<- List.take_add]
   ·unfold QaI Qfs;rw [Bool.and_eq_true,decide_eq_true_eq,List.all_eq_true];refine ⟨⟨by omega,by omega,fun e=>by rw [hr e];rfl,by omega,?_⟩,g4⟩;by_cases hn:n=0
    ·have:=b5 hn;simp only [decide_eq_true_eq] at this;rcases hp0 this with h|h
     ·exact .inl h
     ·exact .inr (.inl (by omega))
    ·exact .inr (.inr (by omega))
  ·rw [if_neg he2] at h;exact absurd h he2
 ·have hR:QaD s root up pos=Qbi er.toNat:=by
   unfold QaD;rw [if_neg h32];simp only [hc];rw [if_neg her]
  have hsp:=Qgn (s.drop pos) (32-up) (decide (0<pos));rw [hR] at h;have h:er.toNat=0:=h;rw [hc] at hsp;simp only [] at hsp;omega
theorem Qem (s:List UInt8) (h:(Qay s).err=0):Qcl (Qay s).root (Qay s).up (Qay s).segs=s.take (Qay s).pos/\(Qay s).pos<=s.length/\QaI (Qay s).root (Qay s).up (Qay s).segs=true:=by
 unfold Qay at h |-;by_cases hr:Qbh s=true
 ·rw [if_pos hr] at h |-;cases s with
  | nil=>cases hr
  | cons c r =>
    have hc:c=92:=by unfold Qbh at hr;simpa using hr
    subst hc;exact Qf7 (by rfl) (by simp) (fun _=>rfl) (fun _=>.inl rfl) h
 ·rw [if_neg hr] at h |-;exact Qf7 (by rw [<- Qh7]<;>rfl) (QkA s) (fun h=>by cases h) (fun h=>.inr h) h
theorem Qme {root:Bool} {up:Nat} {l:List (List UInt8)} (hv:QaI root up l=true):1<=(Qcl root up l).length:=by
 unfold QaI at hv;rw [Bool.and_eq_true,List.all_eq_true] at hv;obtain ⟨hp,ha⟩:=hv;unfold Qfs at hp;have hp:=of_decide_eq_true hp;unfold Qcl;rw [List.length_append,List.length_append,List.length_append,List.length_replicate];cases root with
 | true=>show 1<=1+_+_+_;omega
 | false =>
   cases up with
   | succ u=>omega
   | zero =>
     match l,ha,hp with
     | [],_,hp=>exact absurd hp.2.2.2.2 (by simp)
     | [x],ha,_ =>
       obtain ⟨h1,h4⟩:=Qcj (ha x (by simp));rw [List.flatMap_cons,List.length_append,QoA h1 h4];omega
     | [x,y],_,_=>show 1<=_+_+1+_;omega
     | x::y::z::r,_,_ =>
       have:1<=(Qa8 (x::y::z::r).length).length:=by
        unfold Qa8;rw [if_neg (by simp),if_neg (by simp),if_pos (by simp),List.length_cons];omega
       omega
end
section
open Go.RowKit
inductive DR where
 | no (pos:Nat) (err:Int)
 | ok (pos:Nat) (ns:List Nd)
inductive TR where
 | no (err:Int)
 | ok (pos:Nat) (text:List UInt8)
def Qd2 (inner:Bool):Int:=if inner=true then 3 else 4
def Qaw (s:List UInt8) (p e:Nat):List UInt8:=List.take (e-p) (List.drop p s)
def opB (x:Nat):Int :=
 if 16<=x/\x<=27 then (x:Int)-6 else if 112<=x/\x<=124 then (x:Int)-82 else if 128<=x/\x<=156 then (x:Int)-68
 else if x=48 then 50 else if x=49 then 51 else if x=63 then 5 else if x=96 then 6 else if x=104 then 7 else 0
def QaP (c:UInt8):Int :=
 if c.toNat=0\/c.toNat=1\/c.toNat=255\/c.toNat=10\/c.toNat=11\/c.toNat=12\/c.toNat=14 then 1
 else if c.toNat=13 then 2
 else if (65<=c.toNat/\c.toNat<=90)\/c.toNat=95\/c.toNat=92\/c.toNat=94\/c.toNat=46\/c.toNat=47 then 3
 else if 96<=c.toNat/\c.toNat<104 then 6
 else if 104<=c.toNat/\c.toNat<111 then 7
 else opB c.toNat
def Qen (inner:Bool) (err:Nat):Int:=if err=4 then Qd2 inner else 3
def QdE (inner:Bool) (pos len err:Nat) (n:Nd):DR:=if err=0 then .ok (pos+len) [n] else .no pos (Qen inner err)
def QbR (s:List UInt8) (single inner:Bool) (pos e:Nat):TR :=
 if (Qay (Qaw s pos e)).err=0 then
  (if single=true/\((Qay (Qaw s pos e)).root=true\/0<(Qay (Qaw s pos e)).up\/(Qay (Qaw s pos e)).segs.length≠1) then .no 3
  else .ok (pos+(Qay (Qaw s pos e)).pos) (Qdw (Qay (Qaw s pos e)).root (Qay (Qaw s pos e)).up (Qay (Qaw s pos e)).segs))
 else .no (Qen inner (Qay (Qaw s pos e)).err)
inductive CR where
 | no (err:Int)
 | ok (c:Nat)
def QaK (s:List UInt8) (most:Nat) (inner:Bool) (pos e:Nat):CR :=
 if pos=e then .no (Qd2 inner) else if most<(s.getD pos 0).toNat then .no 3 else .ok (s.getD pos 0).toNat
def QoD (x:DR) (f:Nat->DR) (g:List Nd->List Nd->List Nd):DR:=match x with
 | .no q err=>.no q err
 | .ok q ns=>match f q with
   | .no r err=>.no r err
   | .ok r ms=>.ok r (g ns ms)
def QaM (child:UInt8->Nat->DR):List UInt8->Nat->DR
 | [],pos=>.ok pos []
 | k::ks,pos=>QoD (child k pos) (QaM child ks) (·++·)
def QbV (sub:Nat->DR) (e:Nat):Nat->Nat->List Nd->Nat->DR
 | 0,_,_,pos=>.no pos 3
 | f+1,c,ns,pos=>if pos=e then .ok pos (⟨4,0,[],c⟩::ns) else match sub pos with
   | .no q err=>.no q err
   | .ok q ms=>QbV sub e f (c+1) (ns++ms) q
section
variable (s:List UInt8) (sub:UInt8->Bool->Nat->Nat->DR)
def Qet (k:UInt8) (inner:Bool) (pos e:Nat):DR :=
 if (Qbf (Qaw s pos e)).2.2=0 then
  (if (e:Int)-pos-(Qbf (Qaw s pos e)).2.1<(Qbf (Qaw s pos e)).1 then .no pos (Qd2 inner)
  else QbV (fun q=>sub k true q (pos+(Qbf (Qaw s pos e)).2.1+(Qbf (Qaw s pos e)).1.toNat)) (pos+(Qbf (Qaw s pos e)).2.1+(Qbf (Qaw s pos e)).1.toNat) (s.length+1) 0 [] (pos+(Qbf (Qaw s pos e)).2.1))
 else .no pos (Qen inner (Qbf (Qaw s pos e)).2.2)
def Qap (inner:Bool) (e:Nat) (k:UInt8) (pos:Nat):DR:=if QaZ k=true then Qet s sub k inner pos e else sub k inner pos e
def QeO (n:Nd) (x:DR):DR:=match x with
 | .no q err=>.no q err
 | .ok q ns=>.ok q (n::ns)
def Qcb (op:Int) (inner:Bool) (pos e:Nat):DR :=
 if op=5 then (match QbR s false inner pos e with
  | .no err=>.no pos err
  | .ok q t=>match QaK s 7 inner q e with
    | .no err=>.no q err
    | .ok c=>QeO ⟨5,0,t,c⟩ (QaM (Qap s sub inner e) (List.replicate c 101) (q+1)))
 else if op=33 then (match QaK s 1 inner pos e with
  | .no err=>.no pos err
  | .ok c=>QeO ⟨33,0,[],c⟩ (QaM (Qap s sub inner e) (List.replicate c 101) (pos+1)))
 else if op=31 then (match QaM (Qap s sub inner e) [101,83] pos with
  | .no q err=>.no q err
  | .ok q ns=>match QaK s 1 inner q e with
    | .no err=>.no q err
    | .ok c=>match QaM (Qap s sub inner e) (List.replicate c 83) (q+1) with
      | .no r err=>.no r err
      | .ok r ms=>.ok r (⟨31,0,[],(2+c:Nat)⟩::(ns++ms)))
 else QeO ⟨op,0,[],((Qax op).2.length:Nat)⟩ (QaM (Qap s sub inner e) (Qax op).2 pos)
def QaU (k:UInt8) (inner:Bool) (pos e:Nat):DR :=
 if pos=e then .no pos (Qd2 inner)
 else if Qaq k (QaP (s.getD pos 0))=false then .no pos 3
 else if QaP (s.getD pos 0)=1 then QdE inner pos (Qba (Qaw s pos e)).2.1 (Qba (Qaw s pos e)).2.2 ⟨1,((Qba (Qaw s pos e)).1:Nat),[],0⟩
 else if QaP (s.getD pos 0)=2 then QdE inner pos (Qbl (Qaw s pos e)).2.1 (Qbl (Qaw s pos e)).2.2 ⟨2,0,(Qbl (Qaw s pos e)).1,0⟩
 else if QaP (s.getD pos 0)=3 then (match QbR s (k==115) inner pos e with
  | .no err=>.no pos err
  | .ok q t=>.ok q [⟨3,0,t,0⟩])
 else if QaP (s.getD pos 0)=6 then .ok (pos+1) [⟨6,((s.getD pos 0).toNat:Int)-96,[],0⟩]
 else if QaP (s.getD pos 0)=7 then .ok (pos+1) [⟨7,((s.getD pos 0).toNat:Int)-104,[],0⟩]
 else Qcb s sub (QaP (s.getD pos 0)) inner (pos+1) e
end
def Qas (s:List UInt8):Nat->UInt8->Bool->Nat->Nat->DR
 | 0,_,_,pos,_=>.no pos 3
 | f+1,k,inner,pos,e=>QaU s (Qas s f) k inner pos e
def Qfa (s:List UInt8):Nat->List Nd->Nat->DR
 | 0,_,pos=>.no pos 3
 | f+1,ns,pos=>if pos=s.length then .ok pos ns else match Qas s (s.length+1) 68 false pos s.length with
   | .no q err=>.no q err
   | .ok q ms=>Qfa s f (ns++ms) q
def Qrn:DR->List Nd×Int×Int
 | .no q err=>([],q,err)
 | .ok _ ns=>if Qbk ns=true then (ns,0,0) else ([],0,11)
def Qeu (s:List UInt8):List Nd×Int×Int:=if 65536<s.length then ([],0,11) else Qrn (Qfa s (s.length+1) [] 0)
def NdD (n:Nd):Prop:=n.str.length<=1000/\0<=n.num/\n.num<=18446744073709551615
def Qf8 (pos e:Nat) (x:DR):Prop:=match x with
 | .no q err=>pos<=q/\q<=e/\(err=3\/err=4)
 | .ok q ns=>pos<q/\q<=e/\ns.length+pos<=q/\1<=ns.length/\∀ n∈ns,NdD n
def Qro (pos e:Nat) (x:DR):Prop:=match x with
 | .no q err=>pos<=q/\q<=e/\(err=3\/err=4)
 | .ok q ns=>pos<=q/\q<=e/\ns.length+pos<=q/\∀ n∈ns,NdD n
theorem Qbs {s:List UInt8} {p e:Nat} (hp:p<=e) (he:e<=s.length):(Qaw s p e).length=e-p:=by
 unfold Qaw;rw [List.length_take,List.length_drop];omega
theorem QnE (s:List UInt8) (p e k:Nat) (h:p+k<=e):Qaw s p (p+k)=(Qaw s p e).take k:=by
 unfold Qaw;rw [List.take_take]
 congr 1;omega
theorem QuI {c:UInt8} (h:QaP c=6):96<=c.toNat/\c.toNat<104:=by
 have:∀ x:Fin 256,QaP (UInt8.ofNat x.val)=6->96<=(UInt8.ofNat x.val).toNat/\(UInt8.ofNat x.val).toNat<104:=by decide +kernel
 have h2:=this ⟨c.toNat,c.toNat_lt⟩;rw [UInt8.ofNat_toNat] at h2;exact h2 h
theorem QuJ {c:UInt8} (h:QaP c=7):104<=c.toNat/\c.toNat<111:=by
 have:∀ x:Fin 256,QaP (UInt8.ofNat x.val)=7->104<=(UInt8.ofNat x.val).toNat/\(UInt8.ofNat x.val).toNat<111:=by decide +kernel
 have h2:=this ⟨c.toNat,c.toNat_lt⟩;rw [UInt8.ofNat_toNat] at h2;exact h2 h
theorem QiA (inner:Bool):Qd2 inner=3\/Qd2 inner=4:=by cases inner<;>decide
theorem Qjo (inner:Bool) (err:Nat):Qen inner err=3\/Qen inner err=4:=by
 unfold Qen;split
 ·exact QiA inner
 ·exact .inl rfl
theorem Qdk {k pos num:Int} {str:List UInt8} (h:str.length<=1000) (h1:0<=num) (h2:num<=18446744073709551615):NdD ⟨k,num,str,pos⟩:=⟨h,h1,h2⟩
theorem Qjp {inner:Bool} {pos len err e:Nat} {n:Nd} (hp:pos<=e) (h:err=0->1<=len/\pos+len<=e/\NdD n):Qf8 pos e (QdE inner pos len err n):=by
 unfold QdE;split
 ·next h0 =>
  obtain ⟨h1,h2,h3⟩:=h h0;exact ⟨by omega,h2,by simp;omega,by simp,fun m hm=>by rw [List.mem_singleton] at hm;rw [hm];exact h3⟩
 ·exact ⟨Nat.le_refl _,hp,Qjo _ _⟩
theorem QiB {s:List UInt8} {single inner:Bool} {pos e q:Nat} {t:List UInt8} (hp:pos<=e) (he:e<=s.length) (h:QbR s single inner pos e = .ok q t):pos<q/\q<=e/\t.length<=1000/\QaW t=true/\QbQ t=Qaw s pos q/\(single=true->Qf6 t=true):=by
 unfold QbR at h;split at h
 ·next h0 =>
  split at h
  ·cases h
  ·next hs =>
   obtain ⟨b1,b2,b3⟩:=Qem _ h0;injection h with h1 h2;rw [Qbs hp he] at b2;have hpo:=Qme b3;have hl:=congrArg List.length b1;rw [List.length_take,Qbs hp he] at hl;obtain ⟨p1,p2,p3,p4⟩:=QpE b3;rw [h2] at p1 p2 p3 p4;rw [Int.toNat_natCast] at p3;refine ⟨by omega,by omega,by rw [<- h2];exact Qrm b3,p1,?_,fun hsg=>?_⟩
   ·unfold QbQ;rw [p2,p3,p4,b1,<- h1];exact (QnE s pos e _ (by omega)).symm
   ·unfold Qf6;rw [p2,p3,p4];simp only [Bool.and_eq_true,Bool.not_eq_true',decide_eq_true_eq];have hs':¬ ((Qay (Qaw s pos e)).root=true\/0<(Qay (Qaw s pos e)).up\/(Qay (Qaw s pos e)).segs.length≠1):=fun h=>hs ⟨hsg,h⟩;refine ⟨⟨?_,?_⟩,?_⟩
    ·cases hr:(Qay (Qaw s pos e)).root with
     | true=>exact absurd (.inl hr) hs'
     | false=>rfl
    ·exact Classical.byContradiction fun h=>hs' (.inr (.inl (by omega)))
    ·exact Classical.byContradiction fun h=>hs' (.inr (.inr h))
 ·cases h
theorem QoE {s:List UInt8} {single inner:Bool} {pos e:Nat} {err:Int} (h:QbR s single inner pos e = .no err):err=3\/err=4:=by
 unfold QbR at h;split at h
 ·split at h
  ·injection h with h;exact .inl h.symm
  ·cases h
 ·injection h with h;rw [<- h];exact Qjo _ _
theorem QcY {s:List UInt8} {inner:Bool} {pos e most c:Nat} (h:QaK s most inner pos e = .ok c):pos≠e/\c<=most/\c=(s.getD pos 0).toNat:=by
 unfold QaK at h;split at h
 ·cases h
 ·split at h
  ·cases h
  ·injection h with h;exact ⟨by assumption,by omega,h.symm⟩
theorem Qjq {s:List UInt8} {inner:Bool} {pos e most:Nat} {err:Int} (h:QaK s most inner pos e = .no err):err=3\/err=4:=by
 unfold QaK at h;split at h
 ·injection h with h;rw [<- h];exact QiA _
 ·split at h
  ·injection h with h;exact .inl h.symm
  ·cases h
theorem QdU {child:UInt8->Nat->DR} {e:Nat} (hc:∀ k q,q<=e->Qf8 q e (child k q)):∀ (ks:List UInt8) (q:Nat),q<=e->Qro q e (QaM child ks q)
 | [],q,hq=>⟨Nat.le_refl _,hq,by simp,by simp⟩
 | k::ks,q,hq=>by
   rw [QaM];have h1:=hc k q hq;unfold QoD;cases hx:child k q with
   | no r err=>rw [hx] at h1;exact h1
   | ok r ns =>
     rw [hx] at h1;obtain ⟨a1,a2,a3,a4,a5⟩:=h1;have h2:=QdU hc ks r a2;simp only [];cases hy:QaM child ks r with
     | no r2 err=>rw [hy] at h2;exact ⟨by have:=h2.1;omega,h2.2⟩
     | ok r2 ms =>
       rw [hy] at h2;obtain ⟨b1,b2,b3,b4⟩:=h2;refine ⟨by omega,b2,by rw [List.length_append];omega,fun n hn=>?_⟩;rcases List.mem_append.1 hn with hn|hn
       ·exact a5 n hn
       ·exact b4 n hn
theorem Qjr {sub:Nat->DR} {e:Nat} (hs:∀ q,q<=e->Qf8 q e (sub q)):∀ (F c:Nat) (ns:List Nd) (q:Nat),q<=e->match QbV sub e F c ns q with
  | .no r err=>q<=r/\r<=e/\(err=3\/err=4)
  | .ok r out=>r=e/\∃ (m:Nat) (ms:List Nd),out=⟨4,0,[],(c+m:Nat)⟩::(ns++ms)/\ms.length+q<=e/\∀ n∈ms,NdD n
 | 0,c,ns,q,hq=>⟨Nat.le_refl _,hq,.inl rfl⟩
 | F+1,c,ns,q,hq=>by
   by_cases hqe:q=e
   ·rw [QbV,if_pos hqe];exact ⟨hqe,0,[],by simp,by simp;omega,by simp⟩
   ·have h1:=hs q hq;rw [QbV,if_neg hqe];cases hx:sub q with
    | no r err=>rw [hx] at h1;exact h1
    | ok r ms =>
      rw [hx] at h1;obtain ⟨a1,a2,a3,a4,a5⟩:=h1;have h2:=Qjr hs F (c+1) (ns++ms) r a2;simp only [];cases hy:QbV sub e F (c+1) (ns++ms) r with
      | no r2 err=>rw [hy] at h2;simp only [] at h2 |-;exact ⟨by omega,h2.2⟩
      | ok r2 out =>
        rw [hy] at h2;simp only [] at h2 |-;obtain ⟨b1,m,ms2,b2,b3,b4⟩:=h2;refine ⟨b1,m+1,ms++ms2,by rw [b2,List.append_assoc,show c+1+m=c+(m+1) by omega],by rw [List.length_append];omega,fun n hn=>?_⟩;rcases List.mem_append.1 hn with hn|hn
        ·exact a5 n hn
        ·exact b4 n hn
theorem QnF {s:List UInt8} {sub:UInt8->Bool->Nat->Nat->DR} (hs:∀ k inner q e,q<=e->e<=s.length->Qf8 q e (sub k inner q e)) {k:UInt8} {inner:Bool} {pos e:Nat} (hp:pos<=e) (he:e<=s.length):Qf8 pos e (Qet s sub k inner pos e):=by
 unfold Qet;obtain ⟨n,m,er,hr⟩:∃ n m er,Qbf (Qaw s pos e)=(n,m,er):=⟨_,_,_,rfl⟩;rw [hr];simp only [];split
 ·next h0 =>
  rw [h0] at hr;obtain ⟨b1,b2,b3,b4⟩:=Qe9 _ _ _ hr;rw [Qbs hp he] at b2;split
  ·exact ⟨Nat.le_refl _,hp,QiA _⟩
  ·have h:=Qjr (sub:=fun q=>sub k true q (pos+m+n.toNat)) (e:=pos+m+n.toNat) (fun q hq=>hs k true q _ hq (by omega)) (s.length+1) 0 [] (pos+m) (by omega);cases hx:QbV (fun q=>sub k true q (pos+m+n.toNat)) (pos+m+n.toNat) (s.length+1) 0 [] (pos+m) with
   | no r err=>rw [hx] at h;simp only [] at h;exact ⟨by omega,by omega,h.2.2⟩
   | ok r out =>
     rw [hx] at h;simp only [] at h;obtain ⟨h1,q,ms,h2,h3,h4⟩:=h;rw [h1,h2];refine ⟨by omega,by omega,by simp only [List.nil_append,List.length_cons];omega,by simp,fun z hz=>?_⟩;rcases List.mem_cons.1 hz with rfl|hz
     ·exact Qdk (by simp) (by omega) (by omega)
     ·exact h4 z (by simpa using hz)
 ·exact ⟨Nat.le_refl _,hp,Qjo _ _⟩
theorem Qcg {s:List UInt8} {sub:UInt8->Bool->Nat->Nat->DR} (hs:∀ k inner q e,q<=e->e<=s.length->Qf8 q e (sub k inner q e)) {inner:Bool} {e:Nat} (he:e<=s.length) (k:UInt8) (q:Nat) (hq:q<=e):Qf8 q e (Qap s sub inner e k q):=by
 unfold Qap;split
 ·exact QnF hs hq he
 ·exact hs k inner q e hq he
def Qrp (pos e:Nat) (x:DR):Prop:=match x with
 | .no q err=>pos<=q/\q<=e/\(err=3\/err=4)
 | .ok q ns=>pos<=q/\q<=e/\ns.length+pos<=q+1/\1<=ns.length/\∀ n∈ns,NdD n
theorem Qhy {pos q e:Nat} {n:Nd} {x:DR} (hn:NdD n) (hq:pos<=q) (h:Qro q e x):Qrp pos e (QeO n x):=by
 unfold QeO;cases x with
 | no r err=>exact ⟨by have:=h.1;omega,h.2⟩
 | ok r ns =>
   obtain ⟨h1,h2,h3,h4⟩:=h;refine ⟨by omega,h2,by rw [List.length_cons];omega,by simp,fun m hm=>?_⟩;rcases List.mem_cons.1 hm with rfl|hm
   ·exact hn
   ·exact h4 m hm
theorem QpF {s:List UInt8} {sub:UInt8->Bool->Nat->Nat->DR} (hs:∀ k inner q e,q<=e->e<=s.length->Qf8 q e (sub k inner q e)) {op:Int} {inner:Bool} {pos e:Nat} (hp:pos<=e) (he:e<=s.length):Qrp pos e (Qcb s sub op inner pos e):=by
 have hk:=fun ks q hq=>QdU (child:=Qap s sub inner e) (e:=e) (fun k q hq=>Qcg hs he k q hq) ks q hq;unfold Qcb;split
 ·cases hx:QbR s false inner pos e with
  | no err=>exact ⟨Nat.le_refl _,hp,QoE hx⟩
  | ok q t =>
    obtain ⟨a1,a2,a3,_⟩:=QiB hp he hx;simp only [];cases hy:QaK s 7 inner q e with
    | no err=>exact ⟨by omega,a2,Qjq hy⟩
    | ok c =>
      obtain ⟨b1,b2,_⟩:=QcY hy;exact Qhy (Qdk a3 (by omega) (by omega)) (by omega) (hk _ (q+1) (by omega))
 split
 ·cases hy:QaK s 1 inner pos e with
  | no err=>exact ⟨Nat.le_refl _,hp,Qjq hy⟩
  | ok c =>
    obtain ⟨b1,b2,_⟩:=QcY hy;exact Qhy (Qdk (by simp) (by omega) (by omega)) (by omega) (hk _ (pos+1) (by omega))
 split
 ·have h1:=hk [101,83] pos hp;cases hx:QaM (Qap s sub inner e) [101,83] pos with
  | no q err=>rw [hx] at h1;exact h1
  | ok q ns =>
    rw [hx] at h1;obtain ⟨a1,a2,a3,a4⟩:=h1;simp only [];cases hy:QaK s 1 inner q e with
    | no err=>exact ⟨a1,a2,Qjq hy⟩
    | ok c =>
      obtain ⟨b1,b2,_⟩:=QcY hy;have h2:=hk (List.replicate c 83) (q+1) (by omega);simp only [];cases hz:QaM (Qap s sub inner e) (List.replicate c 83) (q+1) with
      | no r err=>rw [hz] at h2;exact ⟨by have:=h2.1;omega,h2.2⟩
      | ok r ms =>
        rw [hz] at h2;obtain ⟨c1,c2,c3,c4⟩:=h2;refine ⟨by omega,c2,by rw [List.length_cons,List.length_append];omega,by simp,fun n hn=>?_⟩;rcases List.mem_cons.1 hn with rfl|hn
        ·exact Qdk (by simp) (by omega) (by omega)
        rcases List.mem_append.1 hn with hn|hn
        ·exact a4 n hn
        ·exact c4 n hn
 ·exact Qhy (Qdk (by simp) (by omega) (by omega)) Zc (hk _ pos hp)
theorem QbW (s:List UInt8):∀ (f:Nat) (k:UInt8) (inner:Bool) (pos e:Nat),pos<=e->e<=s.length->Qf8 pos e (Qas s f k inner pos e)
 | 0,k,inner,pos,e,hp,he=>⟨Nat.le_refl _,hp,.inl rfl⟩
 | f+1,k,inner,pos,e,hp,he=>by
   have hs:∀ k inner q e,q<=e->e<=s.length->Qf8 q e (Qas s f k inner q e):=fun k inner q e h1 h2=>QbW s f k inner q e h1 h2;have hb:=(s.getD pos 0).toNat_lt;rw [Qas];unfold QaU;split
   ·exact ⟨Nat.le_refl _,hp,QiA _⟩
   ·next hne =>
    split
    ·exact ⟨Nat.le_refl _,hp,.inl rfl⟩
    split
    ·refine Qjp hp (fun h0=>?_);obtain ⟨b1,b2,b3,b4⟩:=Qgs (Qaw s pos e) (Qba (Qaw s pos e)).1 (Qba (Qaw s pos e)).2.1 (Prod.ext rfl (Prod.ext rfl h0));rw [Qbs hp he] at b2;exact ⟨b3,by omega,Qdk (by simp) (by omega) (by unfold Qce at b4;omega)⟩
    split
    ·refine Qjp hp (fun h0=>?_);obtain ⟨b1,b2,b3,b4⟩:=Qgt (Qaw s pos e) (Qbl (Qaw s pos e)).1 (Qbl (Qaw s pos e)).2.1 (Prod.ext rfl (Prod.ext rfl h0));rw [Qbs hp he] at b2;exact ⟨b3,by omega,Qdk (by omega) (by omega) (by omega)⟩
    split
    ·cases hx:QbR s (k==115) inner pos e with
     | no err=>exact ⟨Nat.le_refl _,hp,QoE hx⟩
     | ok q t =>
       obtain ⟨a1,a2,a3,_⟩:=QiB hp he hx;exact ⟨a1,a2,by simp;omega,by simp,fun m hm=>by rw [List.mem_singleton] at hm;rw [hm];exact Qdk a3 (by omega) (by omega)⟩
    split
    ·next h6 =>
     refine ⟨by omega,by omega,by simp;omega,by simp,fun m hm=>?_⟩;rw [List.mem_singleton] at hm;rw [hm];have:=QuI h6;exact Qdk (by simp) (by omega) (by omega)
    split
    ·next h7 =>
     refine ⟨by omega,by omega,by simp;omega,by simp,fun m hm=>?_⟩;rw [List.mem_singleton] at hm;rw [hm];have:=QuJ h7;exact Qdk (by simp) (by omega) (by omega)
    ·have h:=QpF hs (op:=QaP (s.getD pos 0)) (inner:=inner) (pos:=pos+1) (e:=e) (by omega) he;cases hx:Qcb s (Qas s f) (QaP (s.getD pos 0)) inner (pos+1) e with
     | no q err=>rw [hx] at h;exact ⟨by have:=h.1;omega,h.2⟩
     | ok q ns =>
       rw [hx] at h;obtain ⟨h1,h2,h3,h4,h5⟩:=h;exact ⟨by omega,h2,by omega,h4,h5⟩
end
section
open Go.RowKit
attribute [local go_sem] ByteArray.mk_append_mk Qah Qai Qag
theorem QpG (op:Int) (w:World):Calls Tryz.prog 150 #[.int .i64 op] w fun e w'=>e = .returned (.bool (QcL op))/\w=w':=by
 go_enter Tryz.func150,Tryz.ntmps150;go_wp2_with fail
 all_goals
  go_ret;exact ⟨by simp [QcL, *],rfl⟩
theorem QpH (op:Int) (w:World):Calls Tryz.prog 149 #[.int .i64 op] w fun e w'=>e = .returned (.bool (Qcd op))/\w=w':=by
 go_enter Tryz.func149,Tryz.ntmps149;go_wp2_with fail
 all_goals
  go_ret;exact ⟨by simp [Qcd, *],rfl⟩
theorem Qjs (op:Int) (b:Bool) (H:Hid (Qcd op=b)) (w:World):Calls Tryz.prog 149 #[.int .i64 op] w fun e w'=>e = .returned (.bool b)/\w=w':=by
 have:=QpH op w;rw [H.out] at this;exact this
theorem Qmf (op:Int) (b:Bool) (H:Hid (QcL op=b)) (w:World):Calls Tryz.prog 150 #[.int .i64 op] w fun e w'=>e = .returned (.bool b)/\w=w':=by
 have:=QpG op w;rw [H.out] at this;exact this
theorem QpI (op:Int) (w:World):Calls Tryz.prog 148 #[.int .i64 op] w fun e w'=>e = .returned (.bool (QdZ op))/\w=w':=by
 obtain ⟨d,hd⟩:∃ d,Hid (Qcd op=d):=⟨_,Za rfl⟩;unfold QdZ;rw [hd.out];go_enter Tryz.func148,Tryz.ntmps148;cases d<;>go_wp2_with (go_at_call 149;((with_reducible refine (Qjs op _ hd _).mono ?_));rintro e w1 ⟨rfl,rfl⟩)
 all_goals
  go_ret;exact ⟨by first|(simp [*];done)|(simp [*];omega),rfl⟩
theorem Qrq (op:Int) (b:Bool) (H:Hid (QdZ op=b)) (w:World):Calls Tryz.prog 148 #[.int .i64 op] w fun e w'=>e = .returned (.bool b)/\w=w':=by
 have:=QpI op w;rw [H.out] at this;exact this
theorem Qrr (op:Int) (w:World):Calls Tryz.prog 102 #[.int .u8 110,.int .i64 op] w fun e w'=>e = .returned (.bool (Qaq 110 op))/\w=w':=by
 rw [show Qaq 110 op=(op==3) from rfl];go_enter Tryz.func102,Tryz.ntmps102;go_wp2_with fail
 all_goals
  go_ret;exact ⟨by first|(simp [*];done)|(simp [*];omega),rfl⟩
theorem Qrs (op:Int) (w:World):Calls Tryz.prog 102 #[.int .u8 115,.int .i64 op] w fun e w'=>e = .returned (.bool (Qaq 115 op))/\w=w':=by
 rw [show Qaq 115 op=(op==3) from rfl];go_enter Tryz.func102,Tryz.ntmps102;go_wp2_with fail
 all_goals
  go_ret;exact ⟨by first|(simp [*];done)|(simp [*];omega),rfl⟩
theorem Qrt (op:Int) (w:World):Calls Tryz.prog 102 #[.int .u8 105,.int .i64 op] w fun e w'=>e = .returned (.bool (Qaq 105 op))/\w=w':=by
 rw [show Qaq 105 op=(op==1) from rfl];go_enter Tryz.func102,Tryz.ntmps102;go_wp2_with fail
 all_goals
  go_ret;exact ⟨by first|(simp [*];done)|(simp [*];omega),rfl⟩
theorem QsZ (op:Int) (w:World):Calls Tryz.prog 102 #[.int .u8 73,.int .i64 op] w fun e w'=>e = .returned (.bool (Qaq 73 op))/\w=w':=by
 rw [show Qaq 73 op=(op==1) from rfl];go_enter Tryz.func102,Tryz.ntmps102;go_wp2_with fail
 all_goals
  go_ret;exact ⟨by first|(simp [*];done)|(simp [*];omega),rfl⟩
theorem Qru (op:Int) (w:World):Calls Tryz.prog 102 #[.int .u8 101,.int .i64 op] w fun e w'=>e = .returned (.bool (Qaq 101 op))/\w=w':=by
 obtain ⟨d,hd⟩:∃ d,Hid (QdZ op=d):=⟨_,Za rfl⟩;rw [show Qaq 101 op=QdZ op from rfl,hd.out];go_enter Tryz.func102,Tryz.ntmps102;cases d<;>go_wp2_with (go_at_call 148;((with_reducible refine (Qrq op _ hd _).mono ?_));rintro e w1 ⟨rfl,rfl⟩)
 all_goals
  go_ret;exact ⟨by first|(simp [*];done)|(simp [*];omega),rfl⟩
theorem Qrv (op:Int) (w:World):Calls Tryz.prog 102 #[.int .u8 116,.int .i64 op] w fun e w'=>e = .returned (.bool (Qaq 116 op))/\w=w':=by
 rw [show Qaq 116 op=(op==3||op==6||op==7||op==76||op==84) from rfl];go_enter Tryz.func102,Tryz.ntmps102;go_wp2_with fail
 all_goals
  go_ret;exact ⟨by first|(simp [*];done)|(simp [*];omega),rfl⟩
theorem Qrw (op:Int) (w:World):Calls Tryz.prog 102 #[.int .u8 100,.int .i64 op] w fun e w'=>e = .returned (.bool (Qaq 100 op))/\w=w':=by
 obtain ⟨d,hd⟩:∃ d,Hid (Qcd op=d):=⟨_,Za rfl⟩;rw [show Qaq 100 op=Qcd op from rfl,hd.out];go_enter Tryz.func102,Tryz.ntmps102;cases d<;>go_wp2_with (go_at_call 149;((with_reducible refine (Qjs op _ hd _).mono ?_));rintro e w1 ⟨rfl,rfl⟩)
 all_goals
  go_ret;exact ⟨by first|(simp [*];done)|(simp [*];omega),rfl⟩
theorem Qs0 (op:Int) (w:World):Calls Tryz.prog 102 #[.int .u8 80,.int .i64 op] w fun e w'=>e = .returned (.bool (Qaq 80 op))/\w=w':=by
 obtain ⟨d,hd⟩:∃ d,Hid (Qcd op=d):=⟨_,Za rfl⟩;rw [show Qaq 80 op=(Qcd op||op==3) from rfl,hd.out];go_enter Tryz.func102,Tryz.ntmps102;cases d<;>go_wp2_with (go_at_call 149;((with_reducible refine (Qjs op _ hd _).mono ?_));rintro e w1 ⟨rfl,rfl⟩)
 all_goals
  go_ret;exact ⟨by first|(simp [*];done)|(simp [*];omega),rfl⟩
theorem Qs1 (op:Int) (w:World):Calls Tryz.prog 102 #[.int .u8 68,.int .i64 op] w fun e w'=>e = .returned (.bool (Qaq 68 op))/\w=w':=by
 obtain ⟨d,hd⟩:∃ d,Hid (QcL op=d):=⟨_,Za rfl⟩;rw [show Qaq 68 op=(decide (10<=op)&&decide (op<=21)&&!QcL op) from rfl,hd.out];go_enter Tryz.func102,Tryz.ntmps102;cases d<;>go_wp2_with (go_at_call 150;((with_reducible refine (Qmf op _ hd _).mono ?_));rintro e w1 ⟨rfl,rfl⟩)
 all_goals
  go_ret;exact ⟨by first|(simp [*];done)|(simp [*];omega),rfl⟩
theorem Qs2 (op:Int) (w:World):Calls Tryz.prog 102 #[.int .u8 70,.int .i64 op] w fun e w'=>e = .returned (.bool (Qaq 70 op))/\w=w':=by
 obtain ⟨d,hd⟩:∃ d,Hid (QcL op=d):=⟨_,Za rfl⟩;rw [show Qaq 70 op=QcL op from rfl,hd.out];go_enter Tryz.func102,Tryz.ntmps102;cases d<;>go_wp2_with (go_at_call 150;((with_reducible refine (Qmf op _ hd _).mono ?_));rintro e w1 ⟨rfl,rfl⟩)
 all_goals
  go_ret;exact ⟨by first|(simp [*];done)|(simp [*];omega),rfl⟩
theorem Qs3 (op:Int) (w:World):Calls Tryz.prog 102 #[.int .u8 83,.int .i64 op] w fun e w'=>e = .returned (.bool (Qaq 83 op))/\w=w':=by
 rw [show Qaq 83 op=((decide (30<=op)&&decide (op<=42))||op==5) from rfl];go_enter Tryz.func102,Tryz.ntmps102;go_wp2_with fail
 all_goals
  go_ret;exact ⟨by first|(simp [*];done)|(simp [*];omega),rfl⟩
theorem QpJ (k:UInt8) (op:Int) (w:World) (h110:k≠110) (h115:k≠115) (h105:k≠105) (h73:k≠73) (h101:k≠101) (h116:k≠116) (h100:k≠100) (h80:k≠80) (h68:k≠68) (h70:k≠70) (h83:k≠83):Calls Tryz.prog 102 #[.int .u8 k.toNat,.int .i64 op] w fun e w'=>e = .returned (.bool false)/\w=w':=by
 have e110:((k.toNat:Int)==110)=false:=(Qao k 110).trans (Zd h110);have e115:((k.toNat:Int)==115)=false:=(Qao k 115).trans (Zd h115);have e105:((k.toNat:Int)==105)=false:=(Qao k 105).trans (Zd h105);have e73:((k.toNat:Int)==73)=false:=(Qao k 73).trans (Zd h73);have e101:((k.toNat:Int)==101)=false:=(Qao k 101).trans (Zd h101);have e116:((k.toNat:Int)==116)=false:=(Qao k 116).trans (Zd h116);have e100:((k.toNat:Int)==100)=false:=(Qao k 100).trans (Zd h100);have e80:((k.toNat:Int)==80)=false:=(Qao k 80).trans (Zd h80);have e68:((k.toNat:Int)==68)=false:=(Qao k 68).trans (Zd h68);have e70:((k.toNat:Int)==70)=false:=(Qao k 70).trans (Zd h70);have e83:((k.toNat:Int)==83)=false:=(Qao k 83).trans (Zd h83);clear h110 h115 h105 h73 h101 h116 h100 h80 h68 h70 h83;go_enter Tryz.func102,Tryz.ntmps102;go_wp2_with fail;go_ret;exact ⟨rfl,rfl⟩
theorem Qrx (k:UInt8) (op:Int) (w:World):Calls Tryz.prog 102 #[.int .u8 k.toNat,.int .i64 op] w fun e w'=>e = .returned (.bool (Qaq k op))/\w=w':=by
 by_cases h110:k=110
 ·subst h110;exact Qrr op w
 by_cases h115:k=115
 ·subst h115;exact Qrs op w
 by_cases h105:k=105
 ·subst h105;exact Qrt op w
 by_cases h73:k=73
 ·subst h73;exact QsZ op w
 by_cases h101:k=101
 ·subst h101;exact Qru op w
 by_cases h116:k=116
 ·subst h116;exact Qrv op w
 by_cases h100:k=100
 ·subst h100;exact Qrw op w
 by_cases h80:k=80
 ·subst h80;exact Qs0 op w
 by_cases h68:k=68
 ·subst h68;exact Qs1 op w
 by_cases h70:k=70
 ·subst h70;exact Qs2 op w
 by_cases h83:k=83
 ·subst h83;exact Qs3 op w
 have e:Qaq k op=false:=by unfold Qaq;simp only [h110,h115,h105,h73,h101,h116,h100,h80,h68,h70,h83,or_self,if_false]
 rw [e];exact QpJ k op w h110 h115 h105 h73 h101 h116 h100 h80 h68 h70 h83
theorem Qfb (k:UInt8) (op:Int) (b:Bool) (H:Hid (Qaq k op=b)) (w:World):Calls Tryz.prog 102 #[.int .u8 k.toNat,.int .i64 op] w fun e w'=>e = .returned (.bool b)/\w=w':=by
 have:=Qrx k op w;rw [H.out] at this;exact this
theorem Qdt {op c:Int} {b:Bool} (h:((QbL op:Nat):Int)=c) (k:Qcv op=b):Ending.returned (.tuple #[.int .u8 c,.bool b]) = .returned (.tuple #[.int .u8 (QbL op:Nat),.bool (Qcv op)]):=by rw [h,k]
theorem Qry (op:Int) (w:World):Calls Tryz.prog 87 #[.int .i64 op] w fun e w'=>e = .returned (.tuple #[.int .u8 (QbL op:Nat),.bool (Qcv op)])/\w=w':=by
 by_cases h5:op=5
 ·subst h5;go_enter Tryz.func87,Tryz.ntmps87;go_wp2_with fail;go_ret2;exact ⟨rfl,rfl⟩
 by_cases h6:op=6
 ·subst h6;go_enter Tryz.func87,Tryz.ntmps87;go_wp2_with fail;go_ret2;exact ⟨rfl,rfl⟩
 by_cases h7:op=7
 ·subst h7;go_enter Tryz.func87,Tryz.ntmps87;go_wp2_with fail;go_ret2;exact ⟨rfl,rfl⟩
 by_cases h50:op=50
 ·subst h50;go_enter Tryz.func87,Tryz.ntmps87;go_wp2_with fail;go_ret2;exact ⟨rfl,rfl⟩
 by_cases h51:op=51
 ·subst h51;go_enter Tryz.func87,Tryz.ntmps87;go_wp2_with fail;go_ret2;exact ⟨rfl,rfl⟩
 by_cases hr0:10<=op/\op<=21
 ·obtain ⟨g1,g2⟩:=hr0;have g1':op>=10:=g1;have g3:¬ op>21:=by omega
  have b50:(op==50)=false:=Zd h50;have b51:(op==51)=false:=Zd h51;go_enter Tryz.func87,Tryz.ntmps87;go_wp2_with fail
  all_goals first
   | (exfalso;omega)
   | (go_ret2
      refine ⟨?_,rfl⟩;exact Qdt (by (unfold QbL;repeat' split)<;>omega) (by unfold Qcv;rw [Bool.eq_iff_iff];simp only [Bool.or_eq_true,decide_eq_true_eq,beq_iff_eq,iff_true,Bool.false_eq_true,iff_false];omega))
 by_cases hr1:30<=op/\op<=42
 ·obtain ⟨g1,g2⟩:=hr1;have g1':op>=30:=g1;have g3:¬ op>42:=by omega
  have b50:(op==50)=false:=Zd h50;have b51:(op==51)=false:=Zd h51;go_enter Tryz.func87,Tryz.ntmps87;go_wp2_with fail
  all_goals first
   | (exfalso;omega)
   | (go_ret2
      refine ⟨?_,rfl⟩;exact Qdt (by (unfold QbL;repeat' split)<;>omega) (by unfold Qcv;rw [Bool.eq_iff_iff];simp only [Bool.or_eq_true,decide_eq_true_eq,beq_iff_eq,iff_true,Bool.false_eq_true,iff_false];omega))
 by_cases hr2:60<=op/\op<=88
 ·obtain ⟨g1,g2⟩:=hr2;have g1':op>=60:=g1;have g3:¬ op>88:=by omega
  have b50:(op==50)=false:=Zd h50;have b51:(op==51)=false:=Zd h51;go_enter Tryz.func87,Tryz.ntmps87;go_wp2_with fail
  all_goals first
   | (exfalso;omega)
   | (go_ret2
      refine ⟨?_,rfl⟩;exact Qdt (by (unfold QbL;repeat' split)<;>omega) (by unfold Qcv;rw [Bool.eq_iff_iff];simp only [Bool.or_eq_true,decide_eq_true_eq,beq_iff_eq,iff_true,Bool.false_eq_true,iff_false];omega))
 ·have b5:(op==5)=false:=Zd h5;have b6:(op==6)=false:=Zd h6;have b7:(op==7)=false:=Zd h7;have b50:(op==50)=false:=Zd h50;have b51:(op==51)=false:=Zd h51;go_enter Tryz.func87,Tryz.ntmps87;go_wp2_with fail
  all_goals first
   | (exfalso;omega)
   | (go_ret2
      refine ⟨?_,rfl⟩;exact Qdt (by (unfold QbL;repeat' split)<;>omega) (by unfold Qcv;rw [Bool.eq_iff_iff];simp only [Bool.or_eq_true,decide_eq_true_eq,beq_iff_eq,iff_true,Bool.false_eq_true,iff_false];omega))
theorem QpK (op:Int) (w:World):Calls Tryz.prog 88 #[.int .i64 op] w fun e w'=>e = .returned (.tuple #[.int .u8 (QbL op:Nat),.bool (Qcv op)])/\w=w':=by
 by_cases h5:op=5
 ·subst h5;go_enter Tryz.func88,Tryz.ntmps88;go_wp2_with fail;go_ret2;exact ⟨rfl,rfl⟩
 by_cases h6:op=6
 ·subst h6;go_enter Tryz.func88,Tryz.ntmps88;go_wp2_with fail;go_ret2;exact ⟨rfl,rfl⟩
 by_cases h7:op=7
 ·subst h7;go_enter Tryz.func88,Tryz.ntmps88;go_wp2_with fail;go_ret2;exact ⟨rfl,rfl⟩
 by_cases h50:op=50
 ·subst h50;go_enter Tryz.func88,Tryz.ntmps88;go_wp2_with fail;go_ret2;exact ⟨rfl,rfl⟩
 by_cases h51:op=51
 ·subst h51;go_enter Tryz.func88,Tryz.ntmps88;go_wp2_with fail;go_ret2;exact ⟨rfl,rfl⟩
 by_cases hr0:10<=op/\op<=21
 ·obtain ⟨g1,g2⟩:=hr0;have g1':op>=10:=g1;have g3:¬ op>21:=by omega
  have b50:(op==50)=false:=Zd h50;have b51:(op==51)=false:=Zd h51;go_enter Tryz.func88,Tryz.ntmps88;go_wp2_with fail
  all_goals first
   | (exfalso;omega)
   | (go_ret2
      refine ⟨?_,rfl⟩;exact Qdt (by (unfold QbL;repeat' split)<;>omega) (by unfold Qcv;rw [Bool.eq_iff_iff];simp only [Bool.or_eq_true,decide_eq_true_eq,beq_iff_eq,iff_true,Bool.false_eq_true,iff_false];omega))
 by_cases hr1:30<=op/\op<=42
 ·obtain ⟨g1,g2⟩:=hr1;have g1':op>=30:=g1;have g3:¬ op>42:=by omega
  have b50:(op==50)=false:=Zd h50;have b51:(op==51)=false:=Zd h51;go_enter Tryz.func88,Tryz.ntmps88;go_wp2_with fail
  all_goals first
   | (exfalso;omega)
   | (go_ret2
      refine ⟨?_,rfl⟩;exact Qdt (by (unfold QbL;repeat' split)<;>omega) (by unfold Qcv;rw [Bool.eq_iff_iff];simp only [Bool.or_eq_true,decide_eq_true_eq,beq_iff_eq,iff_true,Bool.false_eq_true,iff_false];omega))
 by_cases hr2:60<=op/\op<=88
 ·obtain ⟨g1,g2⟩:=hr2;have g1':op>=60:=g1;have g3:¬ op>88:=by omega
  have b50:(op==50)=false:=Zd h50;have b51:(op==51)=false:=Zd h51;go_enter Tryz.func88,Tryz.ntmps88;go_wp2_with fail
  all_goals first
   | (exfalso;omega)
   | (go_ret2
      refine ⟨?_,rfl⟩;exact Qdt (by (unfold QbL;repeat' split)<;>omega) (by unfold Qcv;rw [Bool.eq_iff_iff];simp only [Bool.or_eq_true,decide_eq_true_eq,beq_iff_eq,iff_true,Bool.false_eq_true,iff_false];omega))
 ·have b5:(op==5)=false:=Zd h5;have b6:(op==6)=false:=Zd h6;have b7:(op==7)=false:=Zd h7;have b50:(op==50)=false:=Zd h50;have b51:(op==51)=false:=Zd h51;go_enter Tryz.func88,Tryz.ntmps88;go_wp2_with fail
  all_goals first
   | (exfalso;omega)
   | (go_ret2
      refine ⟨?_,rfl⟩;exact Qdt (by (unfold QbL;repeat' split)<;>omega) (by unfold Qcv;rw [Bool.eq_iff_iff];simp only [Bool.or_eq_true,decide_eq_true_eq,beq_iff_eq,iff_true,Bool.false_eq_true,iff_false];omega))
end
end Go.Proofs.YtoohondkpddmcaaGreatDoor
