/- Le Lb Lc Sf Sg Sh -/
import Derived.Test.YtoohondkpddmcaaGreatDoorUzz
import Derived.Test.YtoohondkpddmcaaGreatDoorUao
import Derived.Test.YtoohondkpddmcaaGreatDoorUaj
namespace Go.Proofs.YtoohondkpddmcaaGreatDoor
set_option maxHeartbeats 32000000
set_option linter.unusedVariables false
set_option linter.unusedSimpArgs false
section
open Go.RowKit
theorem Qf3 {c:UInt8} {n least:Nat} (hf:Form c n least) (r:List UInt8) (v m:Nat) (h:Qcn r n least=(v,m,0)):QaZ v=(c::r).take m/\m<=r.length+1/\1<=m/\v<=Qcb:=by
 unfold Qcn at h;split at h
 ·simp at h
 ·split at h
  ·simp at h
  ·next h1 h2 =>
   simp only [Prod.mk.injEq,and_true] at h;obtain ⟨rfl,rfl⟩:=h;have hl:(r.take n).length=n:=by rw [List.length_take];omega
   refine ⟨?_,by omega,by omega,?_⟩
   ·rw [Qm7 hf (r.take n) hl h2,Nat.add_comm,List.take_succ_cons]
   ·have:=Qm6 (r.take n);rw [hl] at this;have h8:256 ^ n<=256 ^ 8:=Nat.pow_le_pow_right (by omega) (by rcases hf with h|h|h|h<;>omega);unfold Qcb;have:(256:Nat) ^ 8=18446744073709551616:=by decide
    omega
theorem Qf4 (s:List UInt8) (v m:Nat) (h:QbD s=(v,m,0)):QaZ v=s.take m/\m<=s.length/\1<=m/\v<=Qcb:=by
 cases s with
 | nil=>simp [QbD] at h
 | cons c r =>
   rcases Ql8 c with rfl|rfl|rfl|rfl|rfl|rfl|rfl|hc
   ·have h:(0,1,0)=(v,m,0):=h;simp only [Prod.mk.injEq,and_true] at h;obtain ⟨rfl,rfl⟩:=h;exact ⟨rfl,by simp,by omega,by decide⟩
   ·have h:(1,1,0)=(v,m,0):=h;simp only [Prod.mk.injEq,and_true] at h;obtain ⟨rfl,rfl⟩:=h;exact ⟨rfl,by simp,by omega,by decide⟩
   ·have h:(Qcb,1,0)=(v,m,0):=h;simp only [Prod.mk.injEq,and_true] at h;obtain ⟨rfl,rfl⟩:=h;exact ⟨show QaZ Qcb=[255] by decide,by simp,by omega,Nat.le_refl _⟩
   ·rw [Qn2] at h;exact Qf3 Form.one r v m h
   ·rw [Qn3] at h;exact Qf3 Form.two r v m h
   ·rw [Qn4] at h;exact Qf3 Form.four r v m h
   ·rw [Qn5] at h;exact Qf3 Form.eight r v m h
   ·rw [Qjx c r hc] at h;simp at h
theorem Qf5 (s v:List UInt8) (m:Nat) (h:Qbq s=(v,m,0)):Qco v=s.take m/\m<=s.length/\1<=m/\v.length<=255:=by
 match s,h with
 | [],h=>simp [Qbq] at h
 | [c],h=>rw [Qbq] at h;split at h<;>simp at h
 | c::d::r,h =>
   rw [Qbq] at h;split at h
   ·next h1 =>
    split at h
    ·simp at h
    ·next h2 =>
     simp only [Prod.mk.injEq,and_true] at h;obtain ⟨rfl,rfl⟩:=h;have hl:(r.take d.toNat).length=d.toNat:=by rw [List.length_take];omega
     have hd:=d.toNat_lt;refine ⟨?_,by simp only [List.length_cons];omega,by omega,by omega⟩;unfold Qco;rw [hl,show 2+d.toNat=d.toNat+1+1 by omega,List.take_succ_cons,List.take_succ_cons,UInt8.ofNat_toNat,show c=13 from Qjy h1]
   ·simp at h
theorem QgL {c:UInt8} {r:List UInt8} {k lim:Nat} (hf:QnY k lim) (hc:c.toNat / 64=k-1) (n:Int) (m:Nat) (h:QbJ c r k lim=(n,m,0)):QaP n=(c::r).take m/\m<=r.length+1/\1<=m/\0<=n:=by
 unfold QbJ at h;split at h
 ·simp at h
 split at h
 ·simp at h
 split at h
 ·simp at h
 ·next h48 hr hl =>
  simp only [Prod.mk.injEq,and_true] at h;obtain ⟨rfl,rfl⟩:=h;have hk:2<=k/\k<=4/\k+2<=lim:=by rcases hf with h|h|h<;>omega
  have hlt:(r.take (k-1)).length=k-1:=by rw [List.length_take];omega
  have hnl:=QeJ r (k-1) (by omega);have h48':c.toNat / 16 % 4=0:=by omega
  have hn:(((c.toNat % 16+16 * num (r.take (k-1)):Nat):Int)-(k:Int)+k).toNat=c.toNat % 16+16 * num (r.take (k-1)):=by omega
  refine ⟨?_,by omega,by omega,by omega⟩;have e256:((256:Int) ^ (k-1))=((256 ^ (k-1):Nat):Int):=by simp
  rw [Qjz hf _ (by omega) (by rw [e256];omega),hn,Qpw hf c (r.take (k-1)) _ hlt hc h48' rfl];obtain ⟨k',rfl⟩:∃ k',k=k'+1:=⟨k-1,by omega⟩;rw [List.take_succ_cons,Nat.add_sub_cancel]
theorem Qf6 (s:List UInt8) (n:Int) (m:Nat) (h:QbE s=(n,m,0)):QaP n=s.take m/\m<=s.length/\1<=m/\0<=n:=by
 cases s with
 | nil=>simp [QbE] at h
 | cons c r =>
   have hc:=c.toNat_lt;by_cases h0:c.toNat=0
   ·rw [QbE,if_pos h0] at h;simp at h
   by_cases h1:c.toNat<64
   ·rw [Qmi (by omega) h1] at h;simp only [Prod.mk.injEq,and_true] at h;obtain ⟨rfl,rfl⟩:=h;exact ⟨Qpx (by omega) h1,by simp,by omega,by omega⟩
   by_cases h2:c.toNat<128
   ·rw [QkH (by omega) h2] at h;exact QgL (.inl ⟨rfl,rfl⟩) (by omega) n m h
   by_cases h3:c.toNat<192
   ·rw [QkI (by omega) h3] at h;exact QgL (.inr (.inl ⟨rfl,rfl⟩)) (by omega) n m h
   ·rw [QkJ (by omega)] at h;exact QgL (.inr (.inr ⟨rfl,rfl⟩)) (by omega) n m h
theorem Qmn {s:List UInt8} {m:Nat}:∀ (f k n:Nat),Qcp s m f k=some n->QeT s m n=true/\k<=n/\n<k+f
 | 0,k,n,h=>by cases h
 | f+1,k,n,h=>by
   rw [Qcp] at h;split at h
   ·next hx=>injection h with h;subst h;exact ⟨hx,by omega,by omega⟩
   ·obtain ⟨a1,a2,a3⟩:=Qmn f (k+1) n h;exact ⟨a1,by omega,by omega⟩
theorem QpE {s x:List UInt8} (h:QbZ s=(x,0)):Qa2 x=true/\Qci x=s.take 4/\4<=s.length:=by
 rw [<- Qmh] at h;unfold Qee at h;split at h
 ·next h4 =>
  split at h
  ·next n hn =>
   simp only [Prod.mk.injEq,and_true] at h;obtain ⟨h5,h6,h7⟩:=Qmn _ _ _ hn;unfold QeT at h5;rw [Bool.and_eq_true,beq_iff_eq] at h5;rw [<- h];have hl:(s.take n).length=n:=by rw [List.length_take];omega
   refine ⟨h5.1,?_,h4⟩;unfold Qci;rw [hl,<- h5.2,<- List.take_add,show n+(4-n)=4 by omega]
  ·simp at h
 ·split at h
  ·simp at h
  ·split at h<;>simp at h
theorem QjB (s:List UInt8):∀ (n pos:Nat) (acc l:List (List UInt8)) (q:Nat),Qbl s n pos acc=(l,q,0)->pos<=s.length ->
  ∃ m,l=acc++m/\m.length=n/\q=pos+4 * n/\q<=s.length/\(∀ x∈m,Qa2 x=true)/\m.flatMap Qci=(s.drop pos).take (4 * n)
 | 0,pos,acc,l,q,h,hp=>by
   rw [Qbl] at h;simp only [Prod.mk.injEq,and_true] at h;obtain ⟨rfl,rfl⟩:=h;exact ⟨[],by simp,rfl,rfl,hp,by simp,by simp⟩
 | n+1,pos,acc,l,q,h,hp=>by
   rw [Qbl] at h;split at h
   ·next h0 =>
    obtain ⟨x,hx⟩:∃ x,(QbZ (s.drop pos)).1=x:=⟨_,rfl⟩;have hr:QbZ (s.drop pos)=(x,0):=Prod.ext hx h0;obtain ⟨h1,h2,h3⟩:=QpE hr;rw [List.length_drop] at h3;rw [hx] at h;obtain ⟨m,rfl,h4,h5,h6,h7,h8⟩:=QjB s n (pos+4) (acc++[x]) l q h (by omega);refine ⟨x::m,by simp,by simp [h4],by omega,h6,?_,?_⟩
    ·intro y hy;rcases List.mem_cons.1 hy with rfl|hy
     ·exact h1
     ·exact h7 y hy
    ·rw [List.flatMap_cons,h2,h8,<- List.drop_drop,<- List.take_add,show 4+4 * n=4 * (n+1) by omega]
   ·next h0 =>
    simp only [Prod.mk.injEq] at h;exact absurd h.2.2 h0
theorem QpF {t:List UInt8} {most:Nat} {pre:Bool} {n m:Int} (hm:most<=32) (h:Qbi t most pre=(n,m,0)):0<=n/\n<=most/\0<=m/\m.toNat<=t.length/\(n=0->pre=true)/\Qav n.toNat=t.take m.toNat:=by
 cases t with
 | nil=>simp [Qbi] at h
 | cons c r =>
   unfold Qbi at h;dsimp only at h;split at h
   ·next h0 =>
    split at h
    ·next hp =>
     simp only [Prod.mk.injEq,and_true] at h;obtain ⟨rfl,rfl⟩:=h;rw [show c=0 from Qjy h0];exact ⟨by omega,by omega,by omega,by simp,fun _=>hp,rfl⟩
    ·simp at h
   split at h
   ·next h46 =>
    split at h
    ·simp at h
    ·simp only [Prod.mk.injEq,and_true] at h;obtain ⟨rfl,rfl⟩:=h;rw [show c=46 from Qjy h46];exact ⟨by omega,by omega,by omega,by simp,(fun h=>absurd h (by decide)),rfl⟩
   split at h
   ·next h47 =>
    split at h
    ·simp at h
    ·cases r with
     | nil=>simp [QfZ] at h
     | cons d r =>
       rw [QfZ] at h;split at h
       ·simp at h
       split at h
       ·simp at h
       ·next h3 hmo =>
        simp only [Prod.mk.injEq,and_true] at h;obtain ⟨rfl,rfl⟩:=h;rw [show c=47 from Qjy h47];refine ⟨by omega,by omega,by omega,by simp,fun h=>by omega,?_⟩;rw [Int.toNat_natCast];unfold Qav;rw [if_neg (by omega),if_neg (by omega),if_pos (by omega)];show 47::Qaz d.toNat 1=[47,d]
        congr 1
        have:=QhN [d];simpa [num] using this
   ·split at h
    ·simp at h
    ·simp only [Prod.mk.injEq,and_true] at h;obtain ⟨rfl,rfl⟩:=h;exact ⟨by omega,by omega,by omega,by simp,(fun h=>absurd h (by decide)),rfl⟩
theorem QjC:∀ s:List UInt8,List.replicate (Qa0 s) 94=s.take (Qa0 s)
 | []=>rfl
 | c::r=>by
   rw [Qa0];split
   ·next h=>rw [List.replicate_succ,List.take_succ_cons,QjC r,show c=94 from Qjy h]
   ·rfl
theorem Qhz {s:List UInt8} {root:Bool} {up pos:Nat} (hpre:Qbv root++List.replicate up 94=s.take pos) (hpl:pos<=s.length) (hr:root=true->up=0) (hp0:0<pos->root=true\/0<up) (h:(QaC s root up pos).err=0) :
  Qbg (QaC s root up pos).root (QaC s root up pos).up (QaC s root up pos).segs=s.take (QaC s root up pos).pos/\(QaC s root up pos).pos<=s.length/\QaD (QaC s root up pos).root (QaC s root up pos).up (QaC s root up pos).segs=true:=by
 by_cases h32:32<up
 ·unfold QaC at h;rw [if_pos h32] at h;cases h
 obtain ⟨n,m,er,hc⟩:∃ n m er,Qbi (s.drop pos) (32-up) (decide (0<pos))=(n,m,er):=⟨_,_,_,rfl⟩;have hcast:((32:Int)-(up:Int))=((32-up:Nat):Int):=by omega
 by_cases her:er=0
 ·rw [her,hcast] at hc;obtain ⟨b1,b2,b3,b4,b5,b6⟩:=QpF (by omega) hc;rw [List.length_drop] at b4;obtain ⟨l,q,e2,hg⟩:∃ l q e2,Qbl s n.toNat (pos+m.toNat) []=(l,q,e2):=⟨_,_,_,rfl⟩;have hR:QaC s root up pos=if e2=0 then ⟨root,up,l,q,0⟩ else Qcl e2:=by
   unfold QaC;rw [if_neg h32];simp only [hcast,hc,hg,if_true]
  rw [hR] at h |-;by_cases he2:e2=0
  ·rw [if_pos he2];rw [he2] at hg;obtain ⟨m2,rfl,g1,g2,g3,g4,g5⟩:=QjB s _ _ _ _ _ hg (by omega);simp only [List.nil_append];refine ⟨?_,g3,?_⟩
   ·unfold Qbg;rw [hpre,g5,g1,b6,g2,<- List.take_add,<- List.drop_drop,List.drop_drop,<- List.take_add]
   ·unfold QaD QfU;rw [Bool.and_eq_true,decide_eq_true_eq,List.all_eq_true];refine ⟨⟨by omega,by omega,fun e=>by rw [hr e];rfl,by omega,?_⟩,g4⟩;by_cases hn:n=0
    ·have:=b5 hn;simp only [decide_eq_true_eq] at this;rcases hp0 this with h|h
     ·exact .inl h
     ·exact .inr (.inl (by omega))
    ·exact .inr (.inr (by omega))
  ·rw [if_neg he2] at h;exact absurd h he2
 ·have hR:QaC s root up pos=Qcl er.toNat:=by
   unfold QaC;rw [if_neg h32];simp only [hc];rw [if_neg her]
  have hsp:=Qf0 (s.drop pos) (32-up) (decide (0<pos));rw [hR] at h;have h:er.toNat=0:=h;rw [hc] at hsp;simp only [] at hsp;omega
theorem QeK (s:List UInt8) (h:(QaA s).err=0):Qbg (QaA s).root (QaA s).up (QaA s).segs=s.take (QaA s).pos/\(QaA s).pos<=s.length/\QaD (QaA s).root (QaA s).up (QaA s).segs=true:=by
 unfold QaA at h |-;by_cases hr:QbI s=true
 ·rw [if_pos hr] at h |-;cases s with
  | nil=>cases hr
  | cons c r =>
    have hc:c=92:=by unfold QbI at hr;simpa using hr
    subst hc;exact Qhz (by rfl) (by simp) (fun _=>rfl) (fun _=>.inl rfl) h
 ·rw [if_neg hr] at h |-;exact Qhz (by rw [<- QjC]<;>rfl) (Qg7 s) (fun h=>by cases h) (fun h=>.inr h) h
theorem Qoa {root:Bool} {up:Nat} {l:List (List UInt8)} (hv:QaD root up l=true):1<=(Qbg root up l).length:=by
 unfold QaD at hv;rw [Bool.and_eq_true,List.all_eq_true] at hv;obtain ⟨hp,ha⟩:=hv;unfold QfU at hp;have hp:=of_decide_eq_true hp;unfold Qbg;rw [List.length_append,List.length_append,List.length_append,List.length_replicate];cases root with
 | true=>show 1<=1+_+_+_;omega
 | false =>
   cases up with
   | succ u=>omega
   | zero =>
     match l,ha,hp with
     | [],_,hp=>exact absurd hp.2.2.2.2 (by simp)
     | [x],ha,_ =>
       obtain ⟨h1,h4⟩:=QbG (ha x (by simp));rw [List.flatMap_cons,List.length_append,Qhc h1 h4];omega
     | [x,y],_,_=>show 1<=_+_+1+_;omega
     | x::y::z::r,_,_ =>
       have:1<=(Qav (x::y::z::r).length).length:=by
        unfold Qav;rw [if_neg (by simp),if_neg (by simp),if_pos (by simp),List.length_cons];omega
       omega
end
section
open Go.RowKit
inductive DR where
 | no (pos:Nat) (err:Int)
 | ok (pos:Nat) (ns:List Nd)
inductive TR where
 | no (err:Int)
 | ok (pos:Nat) (text:List UInt8)
def QeU (inner:Bool):Int:=if inner=true then 3 else 4
def Qam (s:List UInt8) (p e:Nat):List UInt8:=List.take (e-p) (List.drop p s)
def opB (x:Nat):Int :=
 if 16<=x/\x<=27 then (x:Int)-6 else if 112<=x/\x<=124 then (x:Int)-82 else if 128<=x/\x<=156 then (x:Int)-68
 else if x=48 then 50 else if x=49 then 51 else if x=63 then 5 else if x=96 then 6 else if x=104 then 7 else 0
def QaW (c:UInt8):Int :=
 if c.toNat=0\/c.toNat=1\/c.toNat=255\/c.toNat=10\/c.toNat=11\/c.toNat=12\/c.toNat=14 then 1
 else if c.toNat=13 then 2
 else if (65<=c.toNat/\c.toNat<=90)\/c.toNat=95\/c.toNat=92\/c.toNat=94\/c.toNat=46\/c.toNat=47 then 3
 else if 96<=c.toNat/\c.toNat<104 then 6
 else if 104<=c.toNat/\c.toNat<111 then 7
 else opB c.toNat
def QhA (inner:Bool) (err:Nat):Int:=if err=4 then QeU inner else 3
def Qde (inner:Bool) (pos len err:Nat) (n:Nd):DR:=if err=0 then .ok (pos+len) [n] else .no pos (QhA inner err)
def Qcc (s:List UInt8) (single inner:Bool) (pos e:Nat):TR :=
 if (QaA (Qam s pos e)).err=0 then
  (if single=true/\((QaA (Qam s pos e)).root=true\/0<(QaA (Qam s pos e)).up\/(QaA (Qam s pos e)).segs.length≠1) then .no 3
  else .ok (pos+(QaA (Qam s pos e)).pos) (QdR (QaA (Qam s pos e)).root (QaA (Qam s pos e)).up (QaA (Qam s pos e)).segs))
 else .no (QhA inner (QaA (Qam s pos e)).err)
inductive CR where
 | no (err:Int)
 | ok (c:Nat)
def Qbf (s:List UInt8) (most:Nat) (inner:Bool) (pos e:Nat):CR :=
 if pos=e then .no (QeU inner) else if most<(s.getD pos 0).toNat then .no 3 else .ok (s.getD pos 0).toNat
def Qmo (x:DR) (f:Nat->DR) (g:List Nd->List Nd->List Nd):DR:=match x with
 | .no q err=>.no q err
 | .ok q ns=>match f q with
   | .no r err=>.no r err
   | .ok r ms=>.ok r (g ns ms)
def QaU (child:UInt8->Nat->DR):List UInt8->Nat->DR
 | [],pos=>.ok pos []
 | k::ks,pos=>Qmo (child k pos) (QaU child ks) (·++·)
def QbQ (sub:Nat->DR) (e:Nat):Nat->Nat->List Nd->Nat->DR
 | 0,_,_,pos=>.no pos 3
 | f+1,c,ns,pos=>if pos=e then .ok pos (⟨4,0,[],c⟩::ns) else match sub pos with
   | .no q err=>.no q err
   | .ok q ms=>QbQ sub e f (c+1) (ns++ms) q
section
variable (s:List UInt8) (sub:UInt8->Bool->Nat->Nat->DR)
def Qdl (k:UInt8) (inner:Bool) (pos e:Nat):DR :=
 if (QbE (Qam s pos e)).2.2=0 then
  (if (e:Int)-pos-(QbE (Qam s pos e)).2.1<(QbE (Qam s pos e)).1 then .no pos (QeU inner)
  else QbQ (fun q=>sub k true q (pos+(QbE (Qam s pos e)).2.1+(QbE (Qam s pos e)).1.toNat)) (pos+(QbE (Qam s pos e)).2.1+(QbE (Qam s pos e)).1.toNat) (s.length+1) 0 [] (pos+(QbE (Qam s pos e)).2.1))
 else .no pos (QhA inner (QbE (Qam s pos e)).2.2)
def Qat (inner:Bool) (e:Nat) (k:UInt8) (pos:Nat):DR:=if QaQ k=true then Qdl s sub k inner pos e else sub k inner pos e
def Qfo (n:Nd) (x:DR):DR:=match x with
 | .no q err=>.no q err
 | .ok q ns=>.ok q (n::ns)
def Qb0 (op:Int) (inner:Bool) (pos e:Nat):DR :=
 if op=5 then (match Qcc s false inner pos e with
  | .no err=>.no pos err
  | .ok q t=>match Qbf s 7 inner q e with
    | .no err=>.no q err
    | .ok c=>Qfo ⟨5,0,t,c⟩ (QaU (Qat s sub inner e) (List.replicate c 101) (q+1)))
 else if op=33 then (match Qbf s 1 inner pos e with
  | .no err=>.no pos err
  | .ok c=>Qfo ⟨33,0,[],c⟩ (QaU (Qat s sub inner e) (List.replicate c 101) (pos+1)))
 else if op=31 then (match QaU (Qat s sub inner e) [101,83] pos with
  | .no q err=>.no q err
  | .ok q ns=>match Qbf s 1 inner q e with
    | .no err=>.no q err
    | .ok c=>match QaU (Qat s sub inner e) (List.replicate c 83) (q+1) with
      | .no r err=>.no r err
      | .ok r ms=>.ok r (⟨31,0,[],(2+c:Nat)⟩::(ns++ms)))
 else Qfo ⟨op,0,[],((QaE op).2.length:Nat)⟩ (QaU (Qat s sub inner e) (QaE op).2 pos)
def Qbw (k:UInt8) (inner:Bool) (pos e:Nat):DR :=
 if pos=e then .no pos (QeU inner)
 else if Qar k (QaW (s.getD pos 0))=false then .no pos 3
 else if QaW (s.getD pos 0)=1 then Qde inner pos (QbD (Qam s pos e)).2.1 (QbD (Qam s pos e)).2.2 ⟨1,((QbD (Qam s pos e)).1:Nat),[],0⟩
 else if QaW (s.getD pos 0)=2 then Qde inner pos (Qbq (Qam s pos e)).2.1 (Qbq (Qam s pos e)).2.2 ⟨2,0,(Qbq (Qam s pos e)).1,0⟩
 else if QaW (s.getD pos 0)=3 then (match Qcc s (k==115) inner pos e with
  | .no err=>.no pos err
  | .ok q t=>.ok q [⟨3,0,t,0⟩])
 else if QaW (s.getD pos 0)=6 then .ok (pos+1) [⟨6,((s.getD pos 0).toNat:Int)-96,[],0⟩]
 else if QaW (s.getD pos 0)=7 then .ok (pos+1) [⟨7,((s.getD pos 0).toNat:Int)-104,[],0⟩]
 else Qb0 s sub (QaW (s.getD pos 0)) inner (pos+1) e
end
def Qaw (s:List UInt8):Nat->UInt8->Bool->Nat->Nat->DR
 | 0,_,_,pos,_=>.no pos 3
 | f+1,k,inner,pos,e=>Qbw s (Qaw s f) k inner pos e
def QcW (s:List UInt8):Nat->List Nd->Nat->DR
 | 0,_,pos=>.no pos 3
 | f+1,ns,pos=>if pos=s.length then .ok pos ns else match Qaw s (s.length+1) 68 false pos s.length with
   | .no q err=>.no q err
   | .ok q ms=>QcW s f (ns++ms) q
def QpG:DR->List Nd×Int×Int
 | .no q err=>([],q,err)
 | .ok _ ns=>if QaS ns=true then (ns,0,0) else ([],0,11)
def QeV (s:List UInt8):List Nd×Int×Int:=if 65536<s.length then ([],0,11) else QpG (QcW s (s.length+1) [] 0)
def NdD (n:Nd):Prop:=n.str.length<=1000/\0<=n.num/\n.num<=18446744073709551615
def QhB (pos e:Nat) (x:DR):Prop:=match x with
 | .no q err=>pos<=q/\q<=e/\(err=3\/err=4)
 | .ok q ns=>pos<q/\q<=e/\ns.length+pos<=q/\1<=ns.length/\∀ n∈ns,NdD n
def Qs1 (pos e:Nat) (x:DR):Prop:=match x with
 | .no q err=>pos<=q/\q<=e/\(err=3\/err=4)
 | .ok q ns=>pos<=q/\q<=e/\ns.length+pos<=q/\∀ n∈ns,NdD n
theorem Qbo {s:List UInt8} {p e:Nat} (hp:p<=e) (he:e<=s.length):(Qam s p e).length=e-p:=by
 unfold Qam;rw [List.length_take,List.length_drop];omega
theorem QkR (s:List UInt8) (p e k:Nat):Qam s (p+k) e=(Qam s p e).drop k:=by
 unfold Qam;rw [List.drop_take,List.drop_drop]
 congr 1;omega
theorem QhW (s:List UInt8) (p e k:Nat) (h:p+k<=e):Qam s p (p+k)=(Qam s p e).take k:=by
 unfold Qam;rw [List.take_take]
 congr 1;omega
theorem Qwk {c:UInt8} (h:QaW c=6):96<=c.toNat/\c.toNat<104:=by
 have:∀ x:Fin 256,QaW (UInt8.ofNat x.val)=6->96<=(UInt8.ofNat x.val).toNat/\(UInt8.ofNat x.val).toNat<104:=by decide +kernel
 have h2:=this ⟨c.toNat,c.toNat_lt⟩;rw [UInt8.ofNat_toNat] at h2;exact h2 h
theorem Qwl {c:UInt8} (h:QaW c=7):104<=c.toNat/\c.toNat<111:=by
 have:∀ x:Fin 256,QaW (UInt8.ofNat x.val)=7->104<=(UInt8.ofNat x.val).toNat/\(UInt8.ofNat x.val).toNat<111:=by decide +kernel
 have h2:=this ⟨c.toNat,c.toNat_lt⟩;rw [UInt8.ofNat_toNat] at h2;exact h2 h
theorem Qj5 (inner:Bool):QeU inner=3\/QeU inner=4:=by cases inner<;>decide
theorem QkS (inner:Bool) (err:Nat):QhA inner err=3\/QhA inner err=4:=by
 unfold QhA;split
 ·exact Qj5 inner
 ·exact .inl rfl
theorem Qdv {k pos num:Int} {str:List UInt8} (h:str.length<=1000) (h1:0<=num) (h2:num<=18446744073709551615):NdD ⟨k,num,str,pos⟩:=⟨h,h1,h2⟩
theorem QkT {inner:Bool} {pos len err e:Nat} {n:Nd} (hp:pos<=e) (h:err=0->1<=len/\pos+len<=e/\NdD n):QhB pos e (Qde inner pos len err n):=by
 unfold Qde;split
 ·next h0 =>
  obtain ⟨h1,h2,h3⟩:=h h0;exact ⟨by omega,h2,by simp;omega,by simp,fun m hm=>by rw [List.mem_singleton] at hm;rw [hm];exact h3⟩
 ·exact ⟨Nat.le_refl _,hp,QkS _ _⟩
theorem Qiw {s:List UInt8} {single inner:Bool} {pos e q:Nat} {t:List UInt8} (hp:pos<=e) (he:e<=s.length) (h:Qcc s single inner pos e = .ok q t):pos<q/\q<=e/\t.length<=1000/\QaY t=true/\Qbu t=Qam s pos q/\(single=true->Qfj t=true):=by
 unfold Qcc at h;split at h
 ·next h0 =>
  split at h
  ·cases h
  ·next hs =>
   obtain ⟨b1,b2,b3⟩:=QeK _ h0;injection h with h1 h2;rw [Qbo hp he] at b2;have hpo:=Qoa b3;have hl:=congrArg List.length b1;rw [List.length_take,Qbo hp he] at hl;obtain ⟨p1,p2,p3,p4⟩:=Qrx b3;rw [h2] at p1 p2 p3 p4;rw [Int.toNat_natCast] at p3;refine ⟨by omega,by omega,by rw [<- h2];exact Qs0 b3,p1,?_,fun hsg=>?_⟩
   ·unfold Qbu;rw [p2,p3,p4,b1,<- h1];exact (QhW s pos e _ (by omega)).symm
   ·unfold Qfj;rw [p2,p3,p4];simp only [Bool.and_eq_true,Bool.not_eq_true',decide_eq_true_eq];have hs':¬ ((QaA (Qam s pos e)).root=true\/0<(QaA (Qam s pos e)).up\/(QaA (Qam s pos e)).segs.length≠1):=fun h=>hs ⟨hsg,h⟩;refine ⟨⟨?_,?_⟩,?_⟩
    ·cases hr:(QaA (Qam s pos e)).root with
     | true=>exact absurd (.inl hr) hs'
     | false=>rfl
    ·exact Classical.byContradiction fun h=>hs' (.inr (.inl (by omega)))
    ·exact Classical.byContradiction fun h=>hs' (.inr (.inr h))
 ·cases h
theorem Qqn {s:List UInt8} {single inner:Bool} {pos e:Nat} {err:Int} (h:Qcc s single inner pos e = .no err):err=3\/err=4:=by
 unfold Qcc at h;split at h
 ·split at h
  ·injection h with h;exact .inl h.symm
  ·cases h
 ·injection h with h;rw [<- h];exact QkS _ _
theorem Qcd {s:List UInt8} {inner:Bool} {pos e most c:Nat} (h:Qbf s most inner pos e = .ok c):pos≠e/\c<=most/\c=(s.getD pos 0).toNat:=by
 unfold Qbf at h;split at h
 ·cases h
 ·split at h
  ·cases h
  ·injection h with h;exact ⟨by assumption,by omega,h.symm⟩
theorem QkU {s:List UInt8} {inner:Bool} {pos e most:Nat} {err:Int} (h:Qbf s most inner pos e = .no err):err=3\/err=4:=by
 unfold Qbf at h;split at h
 ·injection h with h;rw [<- h];exact Qj5 _
 ·split at h
  ·injection h with h;exact .inl h.symm
  ·cases h
theorem QcT {child:UInt8->Nat->DR} {e:Nat} (hc:∀ k q,q<=e->QhB q e (child k q)):∀ (ks:List UInt8) (q:Nat),q<=e->Qs1 q e (QaU child ks q)
 | [],q,hq=>⟨Nat.le_refl _,hq,by simp,by simp⟩
 | k::ks,q,hq=>by
   rw [QaU];have h1:=hc k q hq;unfold Qmo;cases hx:child k q with
   | no r err=>rw [hx] at h1;exact h1
   | ok r ns =>
     rw [hx] at h1;obtain ⟨a1,a2,a3,a4,a5⟩:=h1;have h2:=QcT hc ks r a2;simp only [];cases hy:QaU child ks r with
     | no r2 err=>rw [hy] at h2;exact ⟨by have:=h2.1;omega,h2.2⟩
     | ok r2 ms =>
       rw [hy] at h2;obtain ⟨b1,b2,b3,b4⟩:=h2;refine ⟨by omega,b2,by rw [List.length_append];omega,fun n hn=>?_⟩;rcases List.mem_append.1 hn with hn|hn
       ·exact a5 n hn
       ·exact b4 n hn
theorem Qf7 {sub:Nat->DR} {e:Nat} (hs:∀ q,q<=e->QhB q e (sub q)):∀ (F c:Nat) (ns:List Nd) (q:Nat),q<=e->match QbQ sub e F c ns q with
  | .no r err=>q<=r/\r<=e/\(err=3\/err=4)
  | .ok r out=>r=e/\∃ (m:Nat) (ms:List Nd),out=⟨4,0,[],(c+m:Nat)⟩::(ns++ms)/\ms.length+q<=e/\∀ n∈ms,NdD n
 | 0,c,ns,q,hq=>⟨Nat.le_refl _,hq,.inl rfl⟩
 | F+1,c,ns,q,hq=>by
   by_cases hqe:q=e
   ·rw [QbQ,if_pos hqe];exact ⟨hqe,0,[],by simp,by simp;omega,by simp⟩
   ·have h1:=hs q hq;rw [QbQ,if_neg hqe];cases hx:sub q with
    | no r err=>rw [hx] at h1;exact h1
    | ok r ms =>
      rw [hx] at h1;obtain ⟨a1,a2,a3,a4,a5⟩:=h1;have h2:=Qf7 hs F (c+1) (ns++ms) r a2;simp only [];cases hy:QbQ sub e F (c+1) (ns++ms) r with
      | no r2 err=>rw [hy] at h2;simp only [] at h2 |-;exact ⟨by omega,h2.2⟩
      | ok r2 out =>
        rw [hy] at h2;simp only [] at h2 |-;obtain ⟨b1,m,ms2,b2,b3,b4⟩:=h2;refine ⟨b1,m+1,ms++ms2,by rw [b2,List.append_assoc,show c+1+m=c+(m+1) by omega],by rw [List.length_append];omega,fun n hn=>?_⟩;rcases List.mem_append.1 hn with hn|hn
        ·exact a5 n hn
        ·exact b4 n hn
theorem QpH {s:List UInt8} {sub:UInt8->Bool->Nat->Nat->DR} (hs:∀ k inner q e,q<=e->e<=s.length->QhB q e (sub k inner q e)) {k:UInt8} {inner:Bool} {pos e:Nat} (hp:pos<=e) (he:e<=s.length):QhB pos e (Qdl s sub k inner pos e):=by
 unfold Qdl;obtain ⟨n,m,er,hr⟩:∃ n m er,QbE (Qam s pos e)=(n,m,er):=⟨_,_,_,rfl⟩;rw [hr];simp only [];split
 ·next h0 =>
  rw [h0] at hr;obtain ⟨b1,b2,b3,b4⟩:=Qf6 _ _ _ hr;rw [Qbo hp he] at b2;split
  ·exact ⟨Nat.le_refl _,hp,Qj5 _⟩
  ·have h:=Qf7 (sub:=fun q=>sub k true q (pos+m+n.toNat)) (e:=pos+m+n.toNat) (fun q hq=>hs k true q _ hq (by omega)) (s.length+1) 0 [] (pos+m) (by omega);cases hx:QbQ (fun q=>sub k true q (pos+m+n.toNat)) (pos+m+n.toNat) (s.length+1) 0 [] (pos+m) with
   | no r err=>rw [hx] at h;simp only [] at h;exact ⟨by omega,by omega,h.2.2⟩
   | ok r out =>
     rw [hx] at h;simp only [] at h;obtain ⟨h1,q,ms,h2,h3,h4⟩:=h;rw [h1,h2];refine ⟨by omega,by omega,by simp only [List.nil_append,List.length_cons];omega,by simp,fun z hz=>?_⟩;rcases List.mem_cons.1 hz with rfl|hz
     ·exact Qdv (by simp) (by omega) (by omega)
     ·exact h4 z (by simpa using hz)
 ·exact ⟨Nat.le_refl _,hp,QkS _ _⟩
theorem QbR {s:List UInt8} {sub:UInt8->Bool->Nat->Nat->DR} (hs:∀ k inner q e,q<=e->e<=s.length->QhB q e (sub k inner q e)) {inner:Bool} {e:Nat} (he:e<=s.length) (k:UInt8) (q:Nat) (hq:q<=e):QhB q e (Qat s sub inner e k q):=by
 unfold Qat
 split
 ·exact QpH hs hq he
 ·exact hs k inner q e hq he
def Qs2 (pos e:Nat) (x:DR):Prop:=match x with
 | .no q err=>pos<=q/\q<=e/\(err=3\/err=4)
 | .ok q ns=>pos<=q/\q<=e/\ns.length+pos<=q+1/\1<=ns.length/\∀ n∈ns,NdD n
theorem Qi1 {pos q e:Nat} {n:Nd} {x:DR} (hn:NdD n) (hq:pos<=q) (h:Qs1 q e x):Qs2 pos e (Qfo n x):=by
 unfold Qfo;cases x with
 | no r err=>exact ⟨by have:=h.1;omega,h.2⟩
 | ok r ns =>
   obtain ⟨h1,h2,h3,h4⟩:=h;refine ⟨by omega,h2,by rw [List.length_cons];omega,by simp,fun m hm=>?_⟩;rcases List.mem_cons.1 hm with rfl|hm
   ·exact hn
   ·exact h4 m hm
theorem Qry {s:List UInt8} {sub:UInt8->Bool->Nat->Nat->DR} (hs:∀ k inner q e,q<=e->e<=s.length->QhB q e (sub k inner q e)) {op:Int} {inner:Bool} {pos e:Nat} (hp:pos<=e) (he:e<=s.length):Qs2 pos e (Qb0 s sub op inner pos e):=by
 have hk:=fun ks q hq=>QcT (child:=Qat s sub inner e) (e:=e) (fun k q hq=>QbR hs he k q hq) ks q hq;unfold Qb0;split
 ·cases hx:Qcc s false inner pos e with
  | no err=>exact ⟨Nat.le_refl _,hp,Qqn hx⟩
  | ok q t =>
    obtain ⟨a1,a2,a3,_⟩:=Qiw hp he hx;simp only [];cases hy:Qbf s 7 inner q e with
    | no err=>exact ⟨by omega,a2,QkU hy⟩
    | ok c =>
      obtain ⟨b1,b2,_⟩:=Qcd hy;exact Qi1 (Qdv a3 (by omega) (by omega)) (by omega) (hk _ (q+1) (by omega))
 split
 ·cases hy:Qbf s 1 inner pos e with
  | no err=>exact ⟨Nat.le_refl _,hp,QkU hy⟩
  | ok c =>
    obtain ⟨b1,b2,_⟩:=Qcd hy;exact Qi1 (Qdv (by simp) (by omega) (by omega)) (by omega) (hk _ (pos+1) (by omega))
 split
 ·have h1:=hk [101,83] pos hp;cases hx:QaU (Qat s sub inner e) [101,83] pos with
  | no q err=>rw [hx] at h1;exact h1
  | ok q ns =>
    rw [hx] at h1;obtain ⟨a1,a2,a3,a4⟩:=h1;simp only [];cases hy:Qbf s 1 inner q e with
    | no err=>exact ⟨a1,a2,QkU hy⟩
    | ok c =>
      obtain ⟨b1,b2,_⟩:=Qcd hy;have h2:=hk (List.replicate c 83) (q+1) (by omega);simp only [];cases hz:QaU (Qat s sub inner e) (List.replicate c 83) (q+1) with
      | no r err=>rw [hz] at h2;exact ⟨by have:=h2.1;omega,h2.2⟩
      | ok r ms =>
        rw [hz] at h2;obtain ⟨c1,c2,c3,c4⟩:=h2;refine ⟨by omega,c2,by rw [List.length_cons,List.length_append];omega,by simp,fun n hn=>?_⟩;rcases List.mem_cons.1 hn with rfl|hn
        ·exact Qdv (by simp) (by omega) (by omega)
        rcases List.mem_append.1 hn with hn|hn
        ·exact a4 n hn
        ·exact c4 n hn
 ·exact Qi1 (Qdv (by simp) (by omega) (by omega)) Zc (hk _ pos hp)
theorem Qbj (s:List UInt8):∀ (f:Nat) (k:UInt8) (inner:Bool) (pos e:Nat),pos<=e->e<=s.length->QhB pos e (Qaw s f k inner pos e)
 | 0,k,inner,pos,e,hp,he=>⟨Nat.le_refl _,hp,.inl rfl⟩
 | f+1,k,inner,pos,e,hp,he=>by
   have hs:∀ k inner q e,q<=e->e<=s.length->QhB q e (Qaw s f k inner q e):=fun k inner q e h1 h2=>Qbj s f k inner q e h1 h2;have hb:=(s.getD pos 0).toNat_lt;rw [Qaw];unfold Qbw;split
   ·exact ⟨Nat.le_refl _,hp,Qj5 _⟩
   ·next hne =>
    split
    ·exact ⟨Nat.le_refl _,hp,.inl rfl⟩
    split
    ·refine QkT hp (fun h0=>?_);obtain ⟨b1,b2,b3,b4⟩:=Qf4 (Qam s pos e) (QbD (Qam s pos e)).1 (QbD (Qam s pos e)).2.1 (Prod.ext rfl (Prod.ext rfl h0));rw [Qbo hp he] at b2;exact ⟨b3,by omega,Qdv (by simp) (by omega) (by unfold Qcb at b4;omega)⟩
    split
    ·refine QkT hp (fun h0=>?_);obtain ⟨b1,b2,b3,b4⟩:=Qf5 (Qam s pos e) (Qbq (Qam s pos e)).1 (Qbq (Qam s pos e)).2.1 (Prod.ext rfl (Prod.ext rfl h0));rw [Qbo hp he] at b2;exact ⟨b3,by omega,Qdv (by omega) (by omega) (by omega)⟩
    split
    ·cases hx:Qcc s (k==115) inner pos e with
     | no err=>exact ⟨Nat.le_refl _,hp,Qqn hx⟩
     | ok q t =>
       obtain ⟨a1,a2,a3,_⟩:=Qiw hp he hx;exact ⟨a1,a2,by simp;omega,by simp,fun m hm=>by rw [List.mem_singleton] at hm;rw [hm];exact Qdv a3 (by omega) (by omega)⟩
    split
    ·next h6 =>
     refine ⟨by omega,by omega,by simp;omega,by simp,fun m hm=>?_⟩;rw [List.mem_singleton] at hm;rw [hm];have:=Qwk h6;exact Qdv (by simp) (by omega) (by omega)
    split
    ·next h7 =>
     refine ⟨by omega,by omega,by simp;omega,by simp,fun m hm=>?_⟩;rw [List.mem_singleton] at hm;rw [hm];have:=Qwl h7;exact Qdv (by simp) (by omega) (by omega)
    ·have h:=Qry hs (op:=QaW (s.getD pos 0)) (inner:=inner) (pos:=pos+1) (e:=e) (by omega) he;cases hx:Qb0 s (Qaw s f) (QaW (s.getD pos 0)) inner (pos+1) e with
     | no q err=>rw [hx] at h;exact ⟨by have:=h.1;omega,h.2⟩
     | ok q ns =>
       rw [hx] at h;obtain ⟨h1,h2,h3,h4,h5⟩:=h;exact ⟨by omega,h2,by omega,h4,h5⟩
end
section
open Go.RowKit
attribute [local go_sem] ByteArray.mk_append_mk Qac Qad Qae
theorem Qrz (op:Int) (w:World):Calls Tryz.prog 150 #[.int .i64 op] w fun e w'=>e = .returned (.bool (QcR op))/\w=w':=by
 go_enter Tryz.func150,Tryz.ntmps150;go_wp2_with fail
 all_goals
  go_ret;exact ⟨by simp [QcR, *],rfl⟩
theorem QrA (op:Int) (w:World):Calls Tryz.prog 149 #[.int .i64 op] w fun e w'=>e = .returned (.bool (Qcm op))/\w=w':=by
 go_enter Tryz.func149,Tryz.ntmps149;go_wp2_with fail
 all_goals
  go_ret;exact ⟨by simp [Qcm, *],rfl⟩
theorem QkV (op:Int) (b:Bool) (H:Hid (Qcm op=b)) (w:World):Calls Tryz.prog 149 #[.int .i64 op] w fun e w'=>e = .returned (.bool b)/\w=w':=by
 have:=QrA op w;rw [H.out] at this;exact this
theorem Qob (op:Int) (b:Bool) (H:Hid (QcR op=b)) (w:World):Calls Tryz.prog 150 #[.int .i64 op] w fun e w'=>e = .returned (.bool b)/\w=w':=by
 have:=Qrz op w;rw [H.out] at this;exact this
theorem QrB (op:Int) (w:World):Calls Tryz.prog 148 #[.int .i64 op] w fun e w'=>e = .returned (.bool (Qeb op))/\w=w':=by
 obtain ⟨d,hd⟩:∃ d,Hid (Qcm op=d):=⟨_,Za rfl⟩;unfold Qeb;rw [hd.out];go_enter Tryz.func148,Tryz.ntmps148;cases d<;>go_wp2_with (go_at_call 149;((with_reducible refine (QkV op _ hd _).mono ?_));rintro e w1 ⟨rfl,rfl⟩)
 all_goals
  go_ret;exact ⟨by first|(simp [*];done)|(simp [*];omega),rfl⟩
theorem Qs3 (op:Int) (b:Bool) (H:Hid (Qeb op=b)) (w:World):Calls Tryz.prog 148 #[.int .i64 op] w fun e w'=>e = .returned (.bool b)/\w=w':=by
 have:=QrB op w;rw [H.out] at this;exact this
theorem Qs4 (op:Int) (w:World):Calls Tryz.prog 102 #[.int .u8 110,.int .i64 op] w fun e w'=>e = .returned (.bool (Qar 110 op))/\w=w':=by
 rw [show Qar 110 op=(op==3) from rfl];go_enter Tryz.func102,Tryz.ntmps102;go_wp2_with fail
 all_goals
  go_ret;exact ⟨by first|(simp [*];done)|(simp [*];omega),rfl⟩
theorem Qs5 (op:Int) (w:World):Calls Tryz.prog 102 #[.int .u8 115,.int .i64 op] w fun e w'=>e = .returned (.bool (Qar 115 op))/\w=w':=by
 rw [show Qar 115 op=(op==3) from rfl];go_enter Tryz.func102,Tryz.ntmps102;go_wp2_with fail
 all_goals
  go_ret;exact ⟨by first|(simp [*];done)|(simp [*];omega),rfl⟩
theorem Qs6 (op:Int) (w:World):Calls Tryz.prog 102 #[.int .u8 105,.int .i64 op] w fun e w'=>e = .returned (.bool (Qar 105 op))/\w=w':=by
 rw [show Qar 105 op=(op==1) from rfl];go_enter Tryz.func102,Tryz.ntmps102;go_wp2_with fail
 all_goals
  go_ret;exact ⟨by first|(simp [*];done)|(simp [*];omega),rfl⟩
theorem QuI (op:Int) (w:World):Calls Tryz.prog 102 #[.int .u8 73,.int .i64 op] w fun e w'=>e = .returned (.bool (Qar 73 op))/\w=w':=by
 rw [show Qar 73 op=(op==1) from rfl];go_enter Tryz.func102,Tryz.ntmps102;go_wp2_with fail
 all_goals
  go_ret;exact ⟨by first|(simp [*];done)|(simp [*];omega),rfl⟩
theorem Qs7 (op:Int) (w:World):Calls Tryz.prog 102 #[.int .u8 101,.int .i64 op] w fun e w'=>e = .returned (.bool (Qar 101 op))/\w=w':=by
 obtain ⟨d,hd⟩:∃ d,Hid (Qeb op=d):=⟨_,Za rfl⟩;rw [show Qar 101 op=Qeb op from rfl,hd.out];go_enter Tryz.func102,Tryz.ntmps102;cases d<;>go_wp2_with (go_at_call 148;((with_reducible refine (Qs3 op _ hd _).mono ?_));rintro e w1 ⟨rfl,rfl⟩)
 all_goals
  go_ret;exact ⟨by first|(simp [*];done)|(simp [*];omega),rfl⟩
theorem Qs8 (op:Int) (w:World):Calls Tryz.prog 102 #[.int .u8 116,.int .i64 op] w fun e w'=>e = .returned (.bool (Qar 116 op))/\w=w':=by
 rw [show Qar 116 op=(op==3||op==6||op==7||op==76||op==84) from rfl];go_enter Tryz.func102,Tryz.ntmps102;go_wp2_with fail
 all_goals
  go_ret;exact ⟨by first|(simp [*];done)|(simp [*];omega),rfl⟩
theorem Qs9 (op:Int) (w:World):Calls Tryz.prog 102 #[.int .u8 100,.int .i64 op] w fun e w'=>e = .returned (.bool (Qar 100 op))/\w=w':=by
 obtain ⟨d,hd⟩:∃ d,Hid (Qcm op=d):=⟨_,Za rfl⟩;rw [show Qar 100 op=Qcm op from rfl,hd.out];go_enter Tryz.func102,Tryz.ntmps102;cases d<;>go_wp2_with (go_at_call 149;((with_reducible refine (QkV op _ hd _).mono ?_));rintro e w1 ⟨rfl,rfl⟩)
 all_goals
  go_ret;exact ⟨by first|(simp [*];done)|(simp [*];omega),rfl⟩
theorem QuJ (op:Int) (w:World):Calls Tryz.prog 102 #[.int .u8 80,.int .i64 op] w fun e w'=>e = .returned (.bool (Qar 80 op))/\w=w':=by
 obtain ⟨d,hd⟩:∃ d,Hid (Qcm op=d):=⟨_,Za rfl⟩;rw [show Qar 80 op=(Qcm op||op==3) from rfl,hd.out];go_enter Tryz.func102,Tryz.ntmps102;cases d<;>go_wp2_with (go_at_call 149;((with_reducible refine (QkV op _ hd _).mono ?_));rintro e w1 ⟨rfl,rfl⟩)
 all_goals
  go_ret;exact ⟨by first|(simp [*];done)|(simp [*];omega),rfl⟩
theorem QuK (op:Int) (w:World):Calls Tryz.prog 102 #[.int .u8 68,.int .i64 op] w fun e w'=>e = .returned (.bool (Qar 68 op))/\w=w':=by
 obtain ⟨d,hd⟩:∃ d,Hid (QcR op=d):=⟨_,Za rfl⟩;rw [show Qar 68 op=(decide (10<=op)&&decide (op<=21)&&!QcR op) from rfl,hd.out];go_enter Tryz.func102,Tryz.ntmps102;cases d<;>go_wp2_with (go_at_call 150;((with_reducible refine (Qob op _ hd _).mono ?_));rintro e w1 ⟨rfl,rfl⟩)
 all_goals
  go_ret;exact ⟨by first|(simp [*];done)|(simp [*];omega),rfl⟩
theorem QuL (op:Int) (w:World):Calls Tryz.prog 102 #[.int .u8 70,.int .i64 op] w fun e w'=>e = .returned (.bool (Qar 70 op))/\w=w':=by
 obtain ⟨d,hd⟩:∃ d,Hid (QcR op=d):=⟨_,Za rfl⟩;rw [show Qar 70 op=QcR op from rfl,hd.out];go_enter Tryz.func102,Tryz.ntmps102;cases d<;>go_wp2_with (go_at_call 150;((with_reducible refine (Qob op _ hd _).mono ?_));rintro e w1 ⟨rfl,rfl⟩)
 all_goals
  go_ret;exact ⟨by first|(simp [*];done)|(simp [*];omega),rfl⟩
theorem QuM (op:Int) (w:World):Calls Tryz.prog 102 #[.int .u8 83,.int .i64 op] w fun e w'=>e = .returned (.bool (Qar 83 op))/\w=w':=by
 rw [show Qar 83 op=((decide (30<=op)&&decide (op<=42))||op==5) from rfl];go_enter Tryz.func102,Tryz.ntmps102;go_wp2_with fail
 all_goals
  go_ret;exact ⟨by first|(simp [*];done)|(simp [*];omega),rfl⟩
theorem QrC (k:UInt8) (op:Int) (w:World) (h110:k≠110) (h115:k≠115) (h105:k≠105) (h73:k≠73) (h101:k≠101) (h116:k≠116) (h100:k≠100) (h80:k≠80) (h68:k≠68) (h70:k≠70) (h83:k≠83):Calls Tryz.prog 102 #[.int .u8 k.toNat,.int .i64 op] w fun e w'=>e = .returned (.bool false)/\w=w':=by
 have e110:((k.toNat:Int)==110)=false:=(Qao k 110).trans (Zd h110);have e115:((k.toNat:Int)==115)=false:=(Qao k 115).trans (Zd h115);have e105:((k.toNat:Int)==105)=false:=(Qao k 105).trans (Zd h105);have e73:((k.toNat:Int)==73)=false:=(Qao k 73).trans (Zd h73);have e101:((k.toNat:Int)==101)=false:=(Qao k 101).trans (Zd h101);have e116:((k.toNat:Int)==116)=false:=(Qao k 116).trans (Zd h116);have e100:((k.toNat:Int)==100)=false:=(Qao k 100).trans (Zd h100);have e80:((k.toNat:Int)==80)=false:=(Qao k 80).trans (Zd h80);have e68:((k.toNat:Int)==68)=false:=(Qao k 68).trans (Zd h68);have e70:((k.toNat:Int)==70)=false:=(Qao k 70).trans (Zd h70);have e83:((k.toNat:Int)==83)=false:=(Qao k 83).trans (Zd h83);clear h110 h115 h105 h73 h101 h116 h100 h80 h68 h70 h83;go_enter Tryz.func102,Tryz.ntmps102;go_wp2_with fail;go_ret;exact ⟨rfl,rfl⟩
theorem Qta (k:UInt8) (op:Int) (w:World):Calls Tryz.prog 102 #[.int .u8 k.toNat,.int .i64 op] w fun e w'=>e = .returned (.bool (Qar k op))/\w=w':=by
 by_cases h110:k=110
 ·subst h110;exact Qs4 op w
 by_cases h115:k=115
 ·subst h115;exact Qs5 op w
 by_cases h105:k=105
 ·subst h105;exact Qs6 op w
 by_cases h73:k=73
 ·subst h73;exact QuI op w
 by_cases h101:k=101
 ·subst h101;exact Qs7 op w
 by_cases h116:k=116
 ·subst h116;exact Qs8 op w
 by_cases h100:k=100
 ·subst h100;exact Qs9 op w
 by_cases h80:k=80
 ·subst h80;exact QuJ op w
 by_cases h68:k=68
 ·subst h68;exact QuK op w
 by_cases h70:k=70
 ·subst h70;exact QuL op w
 by_cases h83:k=83
 ·subst h83;exact QuM op w
 have e:Qar k op=false:=by unfold Qar;simp only [h110,h115,h105,h73,h101,h116,h100,h80,h68,h70,h83,or_self,if_false]
 rw [e];exact QrC k op w h110 h115 h105 h73 h101 h116 h100 h80 h68 h70 h83
theorem Qf8 (k:UInt8) (op:Int) (b:Bool) (H:Hid (Qar k op=b)) (w:World):Calls Tryz.prog 102 #[.int .u8 k.toNat,.int .i64 op] w fun e w'=>e = .returned (.bool b)/\w=w':=by
 have:=Qta k op w;rw [H.out] at this;exact this
theorem QdE {op c:Int} {b:Bool} (h:((Qbd op:Nat):Int)=c) (k:QdO op=b):Ending.returned (.tuple #[.int .u8 c,.bool b]) = .returned (.tuple #[.int .u8 (Qbd op:Nat),.bool (QdO op)]):=by rw [h,k]
theorem Qtb (op:Int) (w:World):Calls Tryz.prog 87 #[.int .i64 op] w fun e w'=>e = .returned (.tuple #[.int .u8 (Qbd op:Nat),.bool (QdO op)])/\w=w':=by
 by_cases h5:op=5
 ·subst h5;go_enter Tryz.func87,Tryz.ntmps87;go_wp2_with fail;go_ret2;exact ⟨rfl,rfl⟩
 by_cases h6:op=6
 ·subst h6;go_enter Tryz.func87,Tryz.ntmps87;go_wp2_with fail;go_ret2;exact ⟨rfl,rfl⟩
 by_cases h7:op=7
 ·subst h7;go_enter Tryz.func87,Tryz.ntmps87;go_wp2_with fail;go_ret2;exact ⟨rfl,rfl⟩
 by_cases h50:op=50
 ·subst h50;go_enter Tryz.func87,Tryz.ntmps87;go_wp2_with fail;go_ret2;exact ⟨rfl,rfl⟩
 by_cases h51:op=51
 ·subst h51;go_enter Tryz.func87,Tryz.ntmps87;go_wp2_with fail;go_ret2;exact ⟨rfl,rfl⟩
 by_cases hr0:10<=op/\op<=21
 ·obtain ⟨g1,g2⟩:=hr0;have g1':op>=10:=g1;have g3:¬ op>21:=by omega
  have b50:(op==50)=false:=Zd h50;have b51:(op==51)=false:=Zd h51;go_enter Tryz.func87,Tryz.ntmps87;go_wp2_with fail
  all_goals first
   | (exfalso;omega)
   | (go_ret2
      refine ⟨?_,rfl⟩;exact QdE (by (unfold Qbd;repeat' split)<;>omega) (by unfold QdO;rw [Bool.eq_iff_iff];simp only [Bool.or_eq_true,decide_eq_true_eq,beq_iff_eq,iff_true,Bool.false_eq_true,iff_false];omega))
 by_cases hr1:30<=op/\op<=42
 ·obtain ⟨g1,g2⟩:=hr1;have g1':op>=30:=g1;have g3:¬ op>42:=by omega
  have b50:(op==50)=false:=Zd h50;have b51:(op==51)=false:=Zd h51;go_enter Tryz.func87,Tryz.ntmps87;go_wp2_with fail
  all_goals first
   | (exfalso;omega)
   | (go_ret2
      refine ⟨?_,rfl⟩;exact QdE (by (unfold Qbd;repeat' split)<;>omega) (by unfold QdO;rw [Bool.eq_iff_iff];simp only [Bool.or_eq_true,decide_eq_true_eq,beq_iff_eq,iff_true,Bool.false_eq_true,iff_false];omega))
 by_cases hr2:60<=op/\op<=88
 ·obtain ⟨g1,g2⟩:=hr2;have g1':op>=60:=g1;have g3:¬ op>88:=by omega
  have b50:(op==50)=false:=Zd h50;have b51:(op==51)=false:=Zd h51;go_enter Tryz.func87,Tryz.ntmps87;go_wp2_with fail
  all_goals first
   | (exfalso;omega)
   | (go_ret2
      refine ⟨?_,rfl⟩;exact QdE (by (unfold Qbd;repeat' split)<;>omega) (by unfold QdO;rw [Bool.eq_iff_iff];simp only [Bool.or_eq_true,decide_eq_true_eq,beq_iff_eq,iff_true,Bool.false_eq_true,iff_false];omega))
 ·have b5:(op==5)=false:=Zd h5;have b6:(op==6)=false:=Zd h6;have b7:(op==7)=false:=Zd h7;have b50:(op==50)=false:=Zd h50;have b51:(op==51)=false:=Zd h51;go_enter Tryz.func87,Tryz.ntmps87;go_wp2_with fail
  all_goals first
   | (exfalso;omega)
   | (go_ret2
      refine ⟨?_,rfl⟩;exact QdE (by (unfold Qbd;repeat' split)<;>omega) (by unfold QdO;rw [Bool.eq_iff_iff];simp only [Bool.or_eq_true,decide_eq_true_eq,beq_iff_eq,iff_true,Bool.false_eq_true,iff_false];omega))
theorem QrD (op:Int) (w:World):Calls Tryz.prog 88 #[.int .i64 op] w fun e w'=>e = .returned (.tuple #[.int .u8 (Qbd op:Nat),.bool (QdO op)])/\w=w':=by
 by_cases h5:op=5
 ·subst h5;go_enter Tryz.func88,Tryz.ntmps88;go_wp2_with fail;go_ret2;exact ⟨rfl,rfl⟩
 by_cases h6:op=6
 ·subst h6;go_enter Tryz.func88,Tryz.ntmps88;go_wp2_with fail;go_ret2;exact ⟨rfl,rfl⟩
 by_cases h7:op=7
 ·subst h7;go_enter Tryz.func88,Tryz.ntmps88;go_wp2_with fail;go_ret2;exact ⟨rfl,rfl⟩
 by_cases h50:op=50
 ·subst h50;go_enter Tryz.func88,Tryz.ntmps88;go_wp2_with fail;go_ret2;exact ⟨rfl,rfl⟩
 by_cases h51:op=51
 ·subst h51;go_enter Tryz.func88,Tryz.ntmps88;go_wp2_with fail;go_ret2;exact ⟨rfl,rfl⟩
 by_cases hr0:10<=op/\op<=21
 ·obtain ⟨g1,g2⟩:=hr0;have g1':op>=10:=g1;have g3:¬ op>21:=by omega
  have b50:(op==50)=false:=Zd h50;have b51:(op==51)=false:=Zd h51;go_enter Tryz.func88,Tryz.ntmps88;go_wp2_with fail
  all_goals first
   | (exfalso;omega)
   | (go_ret2
      refine ⟨?_,rfl⟩;exact QdE (by (unfold Qbd;repeat' split)<;>omega) (by unfold QdO;rw [Bool.eq_iff_iff];simp only [Bool.or_eq_true,decide_eq_true_eq,beq_iff_eq,iff_true,Bool.false_eq_true,iff_false];omega))
 by_cases hr1:30<=op/\op<=42
 ·obtain ⟨g1,g2⟩:=hr1;have g1':op>=30:=g1;have g3:¬ op>42:=by omega
  have b50:(op==50)=false:=Zd h50;have b51:(op==51)=false:=Zd h51;go_enter Tryz.func88,Tryz.ntmps88;go_wp2_with fail
  all_goals first
   | (exfalso;omega)
   | (go_ret2
      refine ⟨?_,rfl⟩;exact QdE (by (unfold Qbd;repeat' split)<;>omega) (by unfold QdO;rw [Bool.eq_iff_iff];simp only [Bool.or_eq_true,decide_eq_true_eq,beq_iff_eq,iff_true,Bool.false_eq_true,iff_false];omega))
 by_cases hr2:60<=op/\op<=88
 ·obtain ⟨g1,g2⟩:=hr2;have g1':op>=60:=g1;have g3:¬ op>88:=by omega
  have b50:(op==50)=false:=Zd h50;have b51:(op==51)=false:=Zd h51;go_enter Tryz.func88,Tryz.ntmps88;go_wp2_with fail
  all_goals first
   | (exfalso;omega)
   | (go_ret2
      refine ⟨?_,rfl⟩;exact QdE (by (unfold Qbd;repeat' split)<;>omega) (by unfold QdO;rw [Bool.eq_iff_iff];simp only [Bool.or_eq_true,decide_eq_true_eq,beq_iff_eq,iff_true,Bool.false_eq_true,iff_false];omega))
 ·have b5:(op==5)=false:=Zd h5;have b6:(op==6)=false:=Zd h6;have b7:(op==7)=false:=Zd h7;have b50:(op==50)=false:=Zd h50;have b51:(op==51)=false:=Zd h51;go_enter Tryz.func88,Tryz.ntmps88;go_wp2_with fail
  all_goals first
   | (exfalso;omega)
   | (go_ret2
      refine ⟨?_,rfl⟩;exact QdE (by (unfold Qbd;repeat' split)<;>omega) (by unfold QdO;rw [Bool.eq_iff_iff];simp only [Bool.or_eq_true,decide_eq_true_eq,beq_iff_eq,iff_true,Bool.false_eq_true,iff_false];omega))
end
section
open Go.RowKit
attribute [local go_sem] ByteArray.mk_append_mk Qac Qad Qae
theorem QpI (root:Bool) (up:Int) (a:Option Addr) (n c:Nat) (w:World) (hn:n<=1000000):Calls Tryz.prog 181 #[.agg #[.bool root,.int .i64 up,.slice a n c]] w fun e w'=>e = .returned (.bool (!root&&(up==0)&&((n:Int)==1)))/\Below w.heap.size w w':=by
 have HB:Hid (∀ o,Below w.heap.size w (w.alloc o)):=Za (fun o=>Zb.alloc Zc _);obtain ⟨b0,b1,b2⟩:=Qa4 (heap_alloc_new w (.cells #[.bool root,.int .i64 up,.slice a n c] 128));go_enter Tryz.func181,Tryz.ntmps181;go_wp2_with fail
 all_goals
  go_ret;exact ⟨by simp [*],HB.out _⟩
def Qfp (x:List UInt8×List UInt8):Value:=.agg #[.string ⟨x.1.toArray⟩,.string ⟨x.2.toArray⟩]
theorem Qfq (tmps:Array Value) (w:World) (b:Nat) (c0 c1:Value) (h2:tmps.getD 2 undef = .pointer (some ⟨b,0,none⟩)) (hb:w.heap[b]?=some (.cells #[c0,c1] 190 (0,0))) :
  (results Tryz.f182 tmps).run Tryz.prog w = .ok (.agg #[c0,c1]) w:=by
 have e0:w.cell? ⟨b,0,none⟩=some c0:=by rw [cell_of_row w b 0 _ _ (0,0) hb];rfl
 have e1:w.cell? ⟨b,1,none⟩=some c1:=by rw [cell_of_row w b 1 _ _ (0,0) hb];rfl
 have h2':tmps[2]?.getD undef = .pointer (some ⟨b,0,none⟩):=by rw [<- h2];simp
 simp [results];go_simp
set_option maxRecDepth 100000 in
theorem QrE (op:Int) (w:World) (m:Int) (hm:SynG m w) (h1:10<=op) (h2:op<=21):Calls Tryz.prog 182 #[.int .i64 op] w fun e w'=>e = .returned (Qfp (QaE op))/\Below w.heap.size w w':=by
 have hx:QaE op=declT.getD (op-10).toNat ([],[]):=by unfold QaE;rw [if_pos ⟨h1,h2⟩]
 have hj:(op-10).toNat<declT.length:=by show (op-10).toNat<12;omega
 obtain ⟨c0,c1⟩:=hm.2.2.2 _ hj;rw [hx,show declT.getD (op-10).toNat ([],[])=declT[(op-10).toNat] by simp [List.getD,hj]];obtain ⟨x,hxx⟩:∃ x,declT[(op-10).toNat]=x:=⟨_,rfl⟩;rw [hxx] at c0 c1 |-;obtain ⟨j,hj2⟩:∃ j:Int,op-10=j:=⟨_,rfl⟩;have hj0:0<=j:=by omega
 have hj1:j<12:=by omega
 rw [hj2,Nat.mul_comm] at c0 c1;have d0:=Qfb c0 (.cells #[.string ⟨#[]⟩,.string ⟨#[]⟩] 190);have d1:=Qfb c1 (.cells #[.string ⟨#[]⟩,.string ⟨#[]⟩] 190);have HB:Hid (∀ o,Below w.heap.size w (w.alloc o)):=Za (fun o=>Zb.alloc Zc o);clear hx hj hxx hm c0 c1;unfold Qfp;obtain ⟨x1,x2⟩:=x;simp only at d0 d1 |-;go_enter Tryz.func182,Tryz.ntmps182;go_wp2_with fail;exact bodyPost_ret (Qfq _ _ _ _ _ rfl (heap_alloc_new w _)) rfl ⟨rfl,HB.out _⟩
set_option maxRecDepth 100000 in
theorem QrF (op:Int) (w:World) (m:Int) (hm:SynG m w) (h1:30<=op) (h2:op<=42):Calls Tryz.prog 182 #[.int .i64 op] w fun e w'=>e = .returned (Qfp (QaE op))/\Below w.heap.size w w':=by
 have hx:QaE op=stmtT.getD (op-30).toNat ([],[]):=by unfold QaE;rw [if_neg (by omega),if_pos ⟨h1,h2⟩]
 have hj:(op-30).toNat<stmtT.length:=by show (op-30).toNat<13;omega
 obtain ⟨c0,c1⟩:=hm.2.2.1 _ hj;rw [hx,show stmtT.getD (op-30).toNat ([],[])=stmtT[(op-30).toNat] by simp [List.getD,hj]];obtain ⟨x,hxx⟩:∃ x,stmtT[(op-30).toNat]=x:=⟨_,rfl⟩;rw [hxx] at c0 c1 |-;obtain ⟨j,hj2⟩:∃ j:Int,op-30=j:=⟨_,rfl⟩;have hj0:0<=j:=by omega
 have hj1:j<13:=by omega
 rw [hj2,Nat.mul_comm] at c0 c1;have d0:=Qfb c0 (.cells #[.string ⟨#[]⟩,.string ⟨#[]⟩] 190);have d1:=Qfb c1 (.cells #[.string ⟨#[]⟩,.string ⟨#[]⟩] 190);have HB:Hid (∀ o,Below w.heap.size w (w.alloc o)):=Za (fun o=>Zb.alloc Zc o);clear hx hj hxx hm c0 c1;unfold Qfp;obtain ⟨x1,x2⟩:=x;simp only at d0 d1 |-;go_enter Tryz.func182,Tryz.ntmps182;go_wp2_with fail;exact bodyPost_ret (Qfq _ _ _ _ _ rfl (heap_alloc_new w _)) rfl ⟨rfl,HB.out _⟩
set_option maxRecDepth 100000 in
theorem QrG (op:Int) (w:World) (m:Int) (hm:SynG m w) (h1:60<=op) (h2:op<=88):Calls Tryz.prog 182 #[.int .i64 op] w fun e w'=>e = .returned (Qfp (QaE op))/\Below w.heap.size w w':=by
 have hx:QaE op=exprT.getD (op-60).toNat ([],[]):=by unfold QaE;rw [if_neg (by omega),if_neg (by omega),if_pos ⟨h1,h2⟩]
 have hj:(op-60).toNat<exprT.length:=by show (op-60).toNat<29;omega
 obtain ⟨c0,c1⟩:=hm.2.1 _ hj;rw [hx,show exprT.getD (op-60).toNat ([],[])=exprT[(op-60).toNat] by simp [List.getD,hj]];obtain ⟨x,hxx⟩:∃ x,exprT[(op-60).toNat]=x:=⟨_,rfl⟩;rw [hxx] at c0 c1 |-;obtain ⟨j,hj2⟩:∃ j:Int,op-60=j:=⟨_,rfl⟩;have hj0:0<=j:=by omega
 have hj1:j<29:=by omega
 rw [hj2,Nat.mul_comm] at c0 c1;have d0:=Qfb c0 (.cells #[.string ⟨#[]⟩,.string ⟨#[]⟩] 190);have d1:=Qfb c1 (.cells #[.string ⟨#[]⟩,.string ⟨#[]⟩] 190);have HB:Hid (∀ o,Below w.heap.size w (w.alloc o)):=Za (fun o=>Zb.alloc Zc o);clear hx hj hxx hm c0 c1;unfold Qfp;obtain ⟨x1,x2⟩:=x;simp only at d0 d1 |-;go_enter Tryz.func182,Tryz.ntmps182;go_wp2_with fail;exact bodyPost_ret (Qfq _ _ _ _ _ rfl (heap_alloc_new w _)) rfl ⟨rfl,HB.out _⟩
set_option maxRecDepth 100000 in
theorem Qtc (w:World):Calls Tryz.prog 182 #[.int .i64 50] w fun e w'=>e = .returned (Qfp (QaE 50))/\Below w.heap.size w w':=by
 rw [show QaE 50=([66,117,102,102,101,114],[105,73]) from rfl];have HB:Hid (∀ o,Below w.heap.size w (w.alloc o)):=Za (fun o=>Zb.alloc Zc o);unfold Qfp;go_enter Tryz.func182,Tryz.ntmps182;go_wp2_with fail;exact bodyPost_ret (Qfq _ _ _ _ _ rfl (heap_alloc_new w _)) rfl ⟨rfl,HB.out _⟩
set_option maxRecDepth 100000 in
theorem QrH (w:World):Calls Tryz.prog 182 #[.int .i64 51] w fun e w'=>e = .returned (Qfp (QaE 51))/\Below w.heap.size w w':=by
 rw [show QaE 51=([80,97,99,107,97,103,101],[105,80]) from rfl];have HB:Hid (∀ o,Below w.heap.size w (w.alloc o)):=Za (fun o=>Zb.alloc Zc o);unfold Qfp;go_enter Tryz.func182,Tryz.ntmps182;go_wp2_with fail;exact bodyPost_ret (Qfq _ _ _ _ _ rfl (heap_alloc_new w _)) rfl ⟨rfl,HB.out _⟩
set_option maxRecDepth 100000 in
theorem QrI (op:Int) (w:World) (h1:¬ (10<=op/\op<=21)) (h2:¬ (30<=op/\op<=42)) (h3:¬ (60<=op/\op<=88)) (h4:op≠50) (h5:op≠51):Calls Tryz.prog 182 #[.int .i64 op] w fun e w'=>e = .returned (Qfp (QaE op))/\Below w.heap.size w w':=by
 rw [show QaE op=([],[]) by unfold QaE;rw [if_neg h1,if_neg h2,if_neg h3,if_neg h4,if_neg h5]];have HB:Hid (∀ o,Below w.heap.size w (w.alloc o)):=Za (fun o=>Zb.alloc Zc o);have e4:(op==50)=false:=Zd h4;have e5:(op==51)=false:=Zd h5;have g1:10<=op->¬ op<=21:=fun h h'=>h1 ⟨h,h'⟩;have g2:30<=op->¬ op<=42:=fun h h'=>h2 ⟨h,h'⟩;have g3:60<=op->¬ op<=88:=fun h h'=>h3 ⟨h,h'⟩;have HG:=Za (And.intro g1 (And.intro g2 g3));clear h1 h2 h3 h4 h5 g1 g2 g3;unfold Qfp;go_enter Tryz.func182,Tryz.ntmps182;go_wp2_with fail
 all_goals first
  | exact bodyPost_ret (Qfq _ _ _ _ _ rfl (heap_alloc_new w _)) rfl ⟨rfl,HB.out _⟩
  | (exfalso;have h1:=HG.out.1;have h2:=HG.out.2.1;have h3:=HG.out.2.2;omega)
theorem Qtd (op:Int) (w:World) (m:Int) (hm:SynG m w):Calls Tryz.prog 182 #[.int .i64 op] w fun e w'=>e = .returned (Qfp (QaE op))/\Below w.heap.size w w':=by
 by_cases h1:10<=op/\op<=21
 ·exact QrE op w m hm h1.1 h1.2
 by_cases h2:30<=op/\op<=42
 ·exact QrF op w m hm h2.1 h2.2
 by_cases h3:60<=op/\op<=88
 ·exact QrG op w m hm h3.1 h3.2
 by_cases h4:op=50
 ·subst h4;exact Qtc w
 by_cases h5:op=51
 ·subst h5;exact QrH w
 exact QrI op w h1 h2 h3 h4 h5
end
section
open Go.RowKit
attribute [local go_sem] ByteArray.mk_append_mk Qac Qad Qae
theorem Qnd (o ns:List Nd) (a n:Int) (s:List UInt8) (p u:Int):(tcI (o++⟨a,n,s,p⟩::ns)).set (o.length * 4+3) (.int .i64 u)=tcI (o++⟨a,n,s,u⟩::ns):=by
 rw [QdS,QdS,List.set_append_right _ _ (by rw [Qc1];omega),Qc1,show o.length * 4+3-o.length * 4=3 by omega]<;>rfl
theorem QkW (o ns:List Nd) (a n:Int) (s:List UInt8) (p:Int):(tcI (o++⟨a,n,s,p⟩::ns))[o.length * 4+3]?=some (.int .i64 p):=by
 rw [QdS,List.getElem?_append_right (by rw [Qc1];omega),Qc1,show o.length * 4+3-o.length * 4=3 by omega]<;>rfl
end
section
open Go.RowKit
attribute [local go_sem] ByteArray.mk_append_mk Qac Qad Qae
end
end Go.Proofs.YtoohondkpddmcaaGreatDoor
