/- Li -/
import Derived.Test.YtoohondkpddmcaaGreatDoorUzz
import Derived.Test.YtoohondkpddmcaaGreatDoorUao
import Derived.Test.YtoohondkpddmcaaGreatDoorUbi
import Derived.Test.YtoohondkpddmcaaGreatDoorUau
namespace Go.Proofs.YtoohondkpddmcaaGreatDoor
set_option linter.unusedVariables false
set_option linter.unusedSimpArgs false
open Go.RowKit
theorem Qlt {f g:Nat->Option Nat} (h:∀ i j,f i=some j->g i=some j):∀ (m i j:Nat),Qbn f m i=some j->Qbn g m i=some j
 | 0,i,j,e=>e
 | m+1,i,j,e=>by
   rw [Qbn] at e |-;cases hx:f i with
   | none=>rw [hx] at e;cases e
   | some q=>rw [hx] at e;rw [h i q hx];exact Qlt h m q j e
theorem Qlu {f g:UInt8->Nat->Option Nat} (h:∀ k i j,f k i=some j->g k i=some j):∀ (ks:List UInt8) (i j:Nat),QaT f ks i=some j->QaT g ks i=some j
 | [],i,j,e=>e
 | k::ks,i,j,e=>by
   rw [QaT] at e |-;cases hx:f k i with
   | none=>rw [hx] at e;cases e
   | some q=>rw [hx] at e;rw [h k i q hx];exact Qlu h ks q j e
theorem QmJ {f g:Nat->Option Nat} {o:Nat} (h:∀ i j,f i=some j->g (o+i)=some (o+j)):∀ (m i j:Nat),Qbn f m i=some j->Qbn g m (o+i)=some (o+j)
 | 0,i,j,e=>by rw [Qbn] at e |-;injection e with e;rw [e]
 | m+1,i,j,e=>by
   rw [Qbn] at e |-;cases hx:f i with
   | none=>rw [hx] at e;cases e
   | some q=>rw [hx] at e;rw [h i q hx];exact QmJ h m q j e
theorem QmK {f g:UInt8->Nat->Option Nat} {o:Nat} (h:∀ k i j,f k i=some j->g k (o+i)=some (o+j)):∀ (ks:List UInt8) (i j:Nat),QaT f ks i=some j->QaT g ks (o+i)=some (o+j)
 | [],i,j,e=>by rw [QaT] at e |-;injection e with e;rw [e]
 | k::ks,i,j,e=>by
   rw [QaT] at e |-;cases hx:f k i with
   | none=>rw [hx] at e;cases e
   | some q=>rw [hx] at e;rw [h k i q hx];exact QmK h ks q j e
section
variable (p q:List Nd)
theorem Qlv {i:Nat} {n:Nd} (h:p[i]?=some n):(p++q)[i]?=some n:=by
 rw [List.getElem?_append_left (List.getElem?_eq_some_iff.1 h).1,h]
theorem Qjh {i:Nat}:(p++q)[p.length+i]?=q[i]?:=by
 rw [List.getElem?_append_right (by omega),Nat.add_sub_cancel_left]
theorem Qji:∀ (d:Nat) (b:Bool) (k:UInt8) (i j:Nat),Qan p d b k i=some j->Qan (p++q) d b k i=some j
 | 0,b,k,i,j,h=>by rw [Qan] at h;cases h
 | d+1,true,k,i,j,h=>by
   obtain ⟨n,hn,hx,hy⟩:=Qg5 h;rw [Qan,Qlv p q hn];simp only [];rw [if_pos hx];exact Qlt (fun i j h=>Qji d false k i j h) _ _ _ hy
 | d+1,false,k,i,j,h=>by
   obtain ⟨n,ks,hn,ha,hf,hk,hy⟩:=Qg4 h;rw [Qan,Qlv p q hn];simp only [];rw [if_pos ⟨ha,hf⟩,hk];exact Qlu (fun k i j h=>Qji d (QaQ k) k i j h) _ _ _ hy
theorem Qh4:∀ (d:Nat) (b:Bool) (k:UInt8) (i j:Nat),Qan q d b k i=some j->Qan (p++q) d b k (p.length+i)=some (p.length+j)
 | 0,b,k,i,j,h=>by rw [Qan] at h;cases h
 | d+1,true,k,i,j,h=>by
   obtain ⟨n,hn,hx,hy⟩:=Qg5 h;rw [Qan,Qjh,hn];simp only [];rw [if_pos hx];exact QmJ (fun i j h=>Qh4 d false k i j h) _ _ _ hy
 | d+1,false,k,i,j,h=>by
   obtain ⟨n,ks,hn,ha,hf,hk,hy⟩:=Qg4 h;rw [Qan,Qjh,hn];simp only [];rw [if_pos ⟨ha,hf⟩,hk];exact QmK (fun k i j h=>Qh4 d (QaQ k) k i j h) _ _ _ hy
theorem QmL {d:Nat} (hs:∀ b k i j,Qan p d b k i=some j->Qak (p++q) d i=Qak p d i):∀ (m i j:Nat),chV p d m i j->QaB (Qak (p++q) d) m i=QaB (Qak p d) m i
 | 0,i,j,h=>rfl
 | m+1,i,j,h=>by
   obtain ⟨b,k,r,hr,h⟩:=h;rw [QaB,QaB,hs b k i r hr];have he:=Qa7 p d b k i r hr;rw [QmL hs m (Qak p d i).2 j (by rw [he];exact h)]
theorem Qlw {d:Nat} (hs:∀ b k i j,Qan q d b k i=some j->Qak (p++q) d (p.length+i)=((Qak q d i).1,p.length+(Qak q d i).2)):∀ (m i j:Nat),chV q d m i j->QaB (Qak (p++q) d) m (p.length+i)=((QaB (Qak q d) m i).1,p.length+(QaB (Qak q d) m i).2)
 | 0,i,j,h=>rfl
 | m+1,i,j,h=>by
   obtain ⟨b,k,r,hr,h⟩:=h;rw [QaB,QaB,hs b k i r hr];have he:=Qa7 q d b k i r hr;simp only [];rw [Qlw hs m (Qak q d i).2 j (by rw [he];exact h)]
theorem QmM:∀ (d:Nat) (b:Bool) (k:UInt8) (i j:Nat),Qan p d b k i=some j->Qak (p++q) d i=Qak p d i
 | 0,b,k,i,j,h=>by rw [Qan] at h;cases h
 | d+1,b,k,i,j,h=>by
   obtain ⟨n,hn,hv,hc⟩:=Qf2 h;have H:=QmL p q (fun b k i j h=>QmM d b k i j h);have h0:=H _ _ _ hc;rw [Qak,Qak,Qlv p q hn,hn];simp only [h0];by_cases h31:n.kind=31
   ·have hp:=hv.cond h31;obtain ⟨r,h1,h2⟩:=Qd7 2 (n.pos-2).toNat (i+1) j (by rw [show 2+(n.pos-2).toNat=n.pos.toNat by omega];exact hc);have hr:(QaB (Qak p d) 2 (i+1)).2=r:=QdU (fun b k i j h=>Qa7 p d b k i j h) _ _ _ h1;rw [H _ _ _ h1,H _ _ _ (by rw [hr];exact h2)]
   ·simp only [h31,if_false]
theorem Qlx:∀ (d:Nat) (b:Bool) (k:UInt8) (i j:Nat),Qan q d b k i=some j->Qak (p++q) d (p.length+i)=((Qak q d i).1,p.length+(Qak q d i).2)
 | 0,b,k,i,j,h=>by rw [Qan] at h;cases h
 | d+1,b,k,i,j,h=>by
   obtain ⟨n,hn,hv,hc⟩:=Qf2 h;have H:=Qlw p q (fun b k i j h=>Qlx d b k i j h);have h0:=H _ _ _ hc;rw [Qak,Qak,Qjh,hn];simp only [Nat.add_assoc,h0];by_cases h31:n.kind=31
   ·have hp:=hv.cond h31;obtain ⟨r,h1,h2⟩:=Qd7 2 (n.pos-2).toNat (i+1) j (by rw [show 2+(n.pos-2).toNat=n.pos.toNat by omega];exact hc);have hr:(QaB (Qak q d) 2 (i+1)).2=r:=QdU (fun b k i j h=>Qa7 q d b k i j h) _ _ _ h1;rw [H _ _ _ h1];simp only [];rw [H _ _ _ (by rw [hr];exact h2)]
    repeat' split
    all_goals rfl
   ·simp only [h31,if_false]
    repeat' split
    all_goals rfl
theorem QmN:∀ (f F i:Nat),QbT q f i=true->i<=q.length->q.length-i<=F->QbT (p++q) F (p.length+i)=true/\Qbe (p++q) F (p.length+i)=Qbe q f i
 | f,0,i,h,hi,hF=>by
   refine ⟨by rw [QbT,decide_eq_true_eq,List.length_append];omega,?_⟩;rw [Qbe];cases f with
   | zero=>rfl
   | succ f=>rw [Qbe,if_pos (by omega)]
 | 0,F+1,i,h,hi,hF=>by
   rw [QbT] at h;have:=of_decide_eq_true h;rw [QbT,Qbe,Qbe,if_pos (by rw [List.length_append];omega),if_pos (by rw [List.length_append];omega)];exact ⟨rfl,rfl⟩
 | f+1,F+1,i,h,hi,hF=>by
   rw [QbT] at h;rw [QbT,Qbe,Qbe];by_cases hl:q.length<=i
   ·rw [if_pos (by rw [List.length_append];omega),if_pos (by rw [List.length_append];omega),if_pos hl];exact ⟨rfl,rfl⟩
   ·rw [if_neg hl] at h;rw [if_neg (by rw [List.length_append];omega),if_neg (by rw [List.length_append];omega),if_neg hl];cases hx:Qan q 32 false 68 i with
    | none=>rw [hx] at h;cases h
    | some j =>
      rw [hx] at h;have hg:=Qau q 32 false 68 i j hx;rw [Qh4 p q 32 false 68 i j hx,Qlx p q 32 false 68 i j hx,Qa7 q 32 false 68 i j hx];obtain ⟨h1,h2⟩:=QmN f F j h hg.2 (by omega);simp only [];exact ⟨h1,by rw [h2]⟩
theorem QoJ (hq:QbT q q.length 0=true):∀ (f F i:Nat),QbT p f i=true->i<=p.length->p.length+q.length-i<=F->QbT (p++q) F i=true/\Qbe (p++q) F i=Qbe p f i++Qbe q q.length 0
 | f,F,i,h,hi,hF=>by
   by_cases hl:p.length<=i
   ·obtain ⟨h1,h2⟩:=QmN p q q.length F 0 hq (Nat.zero_le _) (by omega);rw [Nat.add_zero,show p.length=i by omega] at h1 h2;refine ⟨h1,?_⟩;rw [h2];cases f with
    | zero=>rw [Qbe,List.nil_append]
    | succ f=>rw [Qbe,if_pos hl,List.nil_append]
   ·cases F with
    | zero=>omega
    | succ F =>
      cases f with
      | zero=>rw [QbT] at h;have:=of_decide_eq_true h;omega
      | succ f =>
        rw [QbT,if_neg hl] at h;rw [QbT,Qbe,Qbe,if_neg (by rw [List.length_append];omega),if_neg (by rw [List.length_append];omega),if_neg hl];cases hx:Qan p 32 false 68 i with
        | none=>rw [hx] at h;cases h
        | some j =>
          rw [hx] at h;have hg:=Qau p 32 false 68 i j hx;rw [Qji p q 32 false 68 i j hx,QmM p q 32 false 68 i j hx,Qa7 p 32 false 68 i j hx];obtain ⟨h1,h2⟩:=QoJ hq f F j h hg.2 (by omega);simp only [];exact ⟨h1,by rw [h2,List.append_assoc]⟩
theorem QvE (hp:QaS p=true) (hq:QaS q=true) (hl:p.length+q.length<=2048):QaS (p++q)=true/\Qbe (p++q) (p++q).length 0=Qbe p p.length 0++Qbe q q.length 0:=by
 unfold QaS at hp hq |-;rw [Bool.and_eq_true] at hp hq |-;rw [List.length_append,decide_eq_true_eq];obtain ⟨h1,h2⟩:=QoJ p q hq.2 p.length (p.length+q.length) 0 hp.2 (Nat.zero_le _) (by omega);exact ⟨⟨hl,h1⟩,h2⟩
end
theorem Qly:∀ (l:List (List UInt8)),(∀ x∈l,Qa2 x=true)->2 * l.length<=(QbK l).length+1
 | [],_=>by simp
 | [x],h=>by
   have:=(QbG (h x (by simp))).1;rw [Qcs];simp only [List.length_cons,List.length_nil];omega
 | x::y::r,h=>by
   have h1:=(QbG (h x (by simp))).1;have h2:=Qly (y::r) (fun z hz=>h z (by simp [hz]));rw [Qb5,List.length_append];simp only [List.length_cons] at h2 |-;omega
theorem QoK {s:List UInt8} (h:QaY s=true) (hs:s.length<=6):(Qbu s).length<=21:=by
 have h1:=QkO h;have h2:=Qni h;have hv:QaD (QaO s) (Qbm s) (QaF s)=true:=h;have h3:=Qly (QaF s) (QbM hv);unfold QdR at h2;rw [if_pos hv] at h2;unfold QjV at h2;have h4:=congrArg List.length h2;rw [List.length_append] at h4;cases hr:QaO s with
 | true =>
   have:Qbm s=0:=by unfold Qbm;rw [if_pos hr]
   omega
 | false =>
   rw [hr] at h4;simp only [Bool.false_eq_true,if_false,List.length_replicate,Int.toNat_natCast] at h4;omega
theorem Qfy {p:List Nd} (hv:QaS p=true) (hg:∀ t∈p,NdG t):(Qbe p p.length 0).length<=32 * p.length/\(Qbe p p.length 0).length<=65536:=by
 unfold QaS at hv;rw [Bool.and_eq_true,decide_eq_true_eq] at hv;have h1:=QhU 32 (fun b k i j h=>Qi0 32 (by omega) (fun n hn hnv=>by
  have hng:=(hg n hn).1;exact ⟨fun e=>by omega,fun e=>by have:=QoK (hnv.path e) hng;omega⟩) 32 b k i j h) p.length 0 hv.2
 have:32 * (p.length-0)<=32 * 2048:=Nat.mul_le_mul_left _ (by omega);refine ⟨by simpa using h1,by omega⟩
end Go.Proofs.YtoohondkpddmcaaGreatDoor
