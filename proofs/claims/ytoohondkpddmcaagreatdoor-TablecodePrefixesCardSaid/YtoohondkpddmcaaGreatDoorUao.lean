/- Fenca Frpa Flint Finc Prim La Nrp -/
import Derived.Test.YtoohondkpddmcaaGreatDoorUzz
import Derived.Test.YtoohondkpddmcaaGreatDoorUam
import Derived.Test.YtoohondkpddmcaaGreatDoorUan
import Derived.Test.YtoohondkpddmcaaGreatDoorUal
import Derived.Test.YtoohondkpddmcaaGreatDoorUah
import Derived.Deep.DeepCutAuto
import Derived.Test.YtoohondkpddmcaaGreatDoorUak
import Derived.Test.YtoohondkpddmcaaGreatDoorUai
namespace Go.Proofs.YtoohondkpddmcaaGreatDoor
set_option linter.unusedVariables false
set_option linter.unusedSimpArgs false
section
open Go.RowKit
theorem Qhb {c:UInt8} (h:Qfm c=true):(c==0)=false:=by
 rw [beq_eq_false_iff_ne];rintro rfl;rw [Qcf] at h;cases h
theorem Qhc {x:List UInt8} (h1:1<=x.length) (h4:x.length<=4):(Qci x).length=4:=by
 unfold Qci;rw [List.length_append,List.length_take];simp;omega
theorem Qrv (x y:List UInt8) (h:Qa2 x=true):QbZ (Qci x++y)=(x,0):=by
 rw [<- Qmh];obtain ⟨h1,h4⟩:=QbG h;have hl:4<=(Qci x++y).length:=by rw [List.length_append,Qhc h1 h4];omega
 rw [Qee,if_pos hl]
 match x,h1,h4,h with
 | [a],_,_,h =>
   rw [Qbr] at h;simp at h;simp [Qci,Qcp,QeT,Qbr,h]
 | [a,b],_,_,h =>
   rw [Qbr] at h;simp at h;have hb:=Qhb h.2;simp [Qci,Qcp,QeT,Qbr,h];simp at hb;simp [hb]
 | [a,b,c],_,_,h =>
   rw [Qbr] at h;simp at h;have hb:=Qhb h.2.1;have hc:=Qhb h.2.2;simp at hb hc;simp [Qci,Qcp,QeT,Qbr,h,hb,hc]
 | [a,b,c,d],_,_,h =>
   rw [Qbr] at h;simp at h;have hb:=Qhb h.2.1;have hc:=Qhb h.2.2.1;have hd:=Qhb h.2.2.2;simp at hb hc hd;simp [Qci,Qcp,QeT,Qbr,h,hb,hc,hd]
 | a::b::c::d::e::r,_,h4,_=>simp at h4
theorem QkL (s t:List UInt8):∀ (l:List (List UInt8)) (p:Nat) (acc:List (List UInt8)),(∀ x∈l,Qa2 x=true)->s.drop p=l.flatMap Qci++t->Qbl s l.length p acc=(acc++l,p+4 * l.length,0)
 | [],p,acc,_,_=>by simp [Qbl]
 | x::r,p,acc,h,hd=>by
   have hx:=h x (by simp);obtain ⟨h1,h4⟩:=QbG hx;rw [List.flatMap_cons,List.append_assoc] at hd;have hs:QbZ (s.drop p)=(x,0):=by rw [hd];exact Qrv _ _ hx
   rw [List.length_cons,Qme hs];have hd2:s.drop (p+4)=r.flatMap Qci++t:=by
    rw [<- List.drop_drop,hd,List.drop_append_of_le_length (by rw [Qhc h1 h4];omega),List.drop_eq_nil_of_le (by rw [Qhc h1 h4];omega),List.nil_append]
   rw [QkL s t r (p+4) (acc++[x]) (fun y hy=>h y (by simp [hy])) hd2];simp;omega
theorem QpB {x:List UInt8} (h:Qa2 x=true):∃ c r,x=c::r/\upB c=true:=by
 match x,h with
 | c::r,h=>rw [Qbr] at h;simp at h;exact ⟨c,r,rfl,h.1.2⟩
theorem QuF (l:List (List UInt8)) (t:List UInt8) (h:∀ x∈l,Qa2 x=true):∃ c r,Qav l.length++(l.flatMap Qci++t)=c::r/\c.toNat≠92/\c.toNat≠94:=by
 match l,h with
 | [],_=>exact ⟨0,t,rfl,by decide,by decide⟩
 | [x],h =>
   obtain ⟨c,r,rfl,hc⟩:=QpB (h x (by simp));unfold upB QgH at hc;have:=of_decide_eq_true hc;exact ⟨c,_,rfl,by omega,by omega⟩
 | [x,y],h=>exact ⟨46,_,rfl,by decide,by decide⟩
 | x::y::z::r,h=>exact ⟨47,_,rfl,by decide,by decide⟩
theorem QpC (u:Nat) (c:UInt8) (r:List UInt8) (h:c.toNat≠94):Qa0 (List.replicate u 94++(c::r))=u:=by
 induction u with
 | zero=>simp [Qa0,h]
 | succ n ih =>
   rw [List.replicate_succ,List.cons_append,Qa0,ih,if_pos (by decide)]
theorem Qrw (l:List (List UInt8)) (t:List UInt8) (up pos:Nat) (h:∀ x∈l,Qa2 x=true) (hn:l.length+up<=32) (hp:l.length=0->0<pos) :
  Qbi (Qav l.length++(l.flatMap Qci++t)) (32-up) (decide (0<pos))=((l.length:Int),((Qav l.length).length:Int),0):=by
 match l,h,hn,hp with
 | [],_,_,hp =>
   show Qbi (0::t) _ _=_;rw [Qbi,if_pos (by decide),if_pos (by simpa using hp rfl)];rfl
 | [x],h,hn,_ =>
   obtain ⟨c,r,rfl,hc⟩:=QpB (h x (by simp));unfold upB QgH at hc;have hc':=of_decide_eq_true hc;have e:Qav [c::r].length++([c::r].flatMap Qci++t)=c::(r++(List.take (4-(c::r).length) [0,0,0]++([]++t))):=by simp [Qav,Qci]
   rw [e,Qbi,if_neg (by omega),if_neg (by omega),if_neg (by omega),if_neg (by simp at hn;omega)];rfl
 | [x,y],h,hn,_ =>
   show Qbi (46::_) _ _=_;rw [Qbi,if_neg (by decide),if_pos (by decide),if_neg (by simp at hn;omega)];rfl
 | x::y::z::r,h,hn,_ =>
   have hl:(x::y::z::r).length<=32:=by omega
   have h3:3<=(x::y::z::r).length:=by simp
   generalize hq:(x::y::z::r)=q at *;have hc:Qav q.length=[47,UInt8.ofNat q.length]:=by
    rw [Qav,if_neg (by omega),if_neg (by omega),if_pos (by omega)];show 47::[UInt8.ofNat (q.length % 256)]=_;rw [Nat.mod_eq_of_lt (by omega)]
   have ht:(UInt8.ofNat q.length).toNat=q.length:=by rw [UInt8.toNat_ofNat'];omega
   rw [hc];show Qbi (47::UInt8.ofNat q.length::_) _ _=_;rw [QhP _ _ _ (by omega),QfZ,ht,if_neg (by omega),if_neg (by omega)];rfl
theorem QkM (root:Bool) (up:Nat) (l:List (List UInt8)) (t:List UInt8) (hv:QaD root up l=true):QaA (Qbg root up l++t)=⟨root,up,l,(Qbg root up l).length,0⟩:=by
 unfold QaD QfU at hv;rw [Bool.and_eq_true,decide_eq_true_eq,List.all_eq_true] at hv;obtain ⟨⟨h0,h32,hr,hn,hne⟩,hall⟩:=hv;have hall':∀ x∈l,Qa2 x=true:=hall;obtain ⟨c,r,hcr,c92,c94⟩:=QuF l t hall';have hpre:∀ (pos:Nat) (s:List UInt8),s.drop pos=Qav l.length++(l.flatMap Qci++t)->pos<=s.length->(l.length=0->0<pos)->QaC s root up pos=⟨root,up,l,pos+(Qav l.length).length+4 * l.length,0⟩:=by
  intro pos s hd hps hz;have h1:=Qrw l t up pos hall' (by omega) hz;rw [<- hd] at h1;rw [Qj4 (by omega) h1];have h2:=QkL s t l (pos+(Qav l.length).length) [] hall' (by rw [<- List.drop_drop,hd,List.drop_append_of_le_length Zc,List.drop_length,List.nil_append]);rw [Int.toNat_natCast,Int.toNat_natCast,h2];simp
 have hlen:(l.flatMap Qci).length=4 * l.length:=by
  clear hcr hpre hn hne;induction l with
  | nil=>rfl
  | cons x q ih =>
    obtain ⟨h1,h4⟩:=QbG (hall' x (by simp));rw [List.flatMap_cons,List.length_append,Qhc h1 h4,ih (fun y hy=>hall y (by simp [hy])) (fun y hy=>hall' y (by simp [hy])),List.length_cons];omega
 cases root with
 | true =>
   have hu:up=0:=by have:=hr rfl;omega
   subst hu;have e:Qbg true 0 l++t=92::(Qav l.length++(l.flatMap Qci++t)):=by simp [Qbg,Qbv]
   have e2:(Qbg true 0 l).length=1+(Qav l.length).length+4 * l.length:=by simp [Qbg,Qbv,hlen];omega
   rw [e2,e];rw [QaA,if_pos (show QbI (92::(Qav l.length++(l.flatMap Qci++t)))=true from rfl)];exact hpre 1 _ rfl (by simp) (fun _=>by omega)
 | false =>
   have e:Qbg false up l++t=List.replicate up 94++(Qav l.length++(l.flatMap Qci++t)):=by simp [Qbg,Qbv]
   have e2:(Qbg false up l).length=up+(Qav l.length).length+4 * l.length:=by simp [Qbg,Qbv,hlen];omega
   rw [e2,e];have hrt:QbI (List.replicate up 94++(Qav l.length++(l.flatMap Qci++t)))=false:=by
    rw [hcr];cases up with
    | zero=>show (c==92)=false;rw [beq_eq_false_iff_ne];rintro rfl;exact c92 rfl
    | succ n=>rfl
   have hca:Qa0 (List.replicate up 94++(Qav l.length++(l.flatMap Qci++t)))=up:=by rw [hcr];exact QpC up c r c94
   rw [QaA,hrt,hca,if_neg (by decide)];refine hpre up _ ?_ (by simp) (fun h=>?_)
   ·rw [List.drop_append_of_le_length (by simp),List.drop_eq_nil_of_le (by simp),List.nil_append]
   ·rcases hne with hx|hx|hx
    ·cases hx
    ·omega
    ·omega
end
section
open Go.RowKit
attribute [local go_sem] Qc2 Qdd ByteArray.mk_append_mk QcO QcP Qir
theorem PathAt.below {w w1 w2:World} {root:Bool} {up:Int} {v:Value} (h:PathAt w w1 root up v) (hb:Below w1.heap.size w1 w2):PathAt w w2 root up v:=by
 have hl:=h.lt;exact ⟨(hb.block _ (by omega)).trans h.1,(hb.block _ (by omega)).trans h.2.1,h.2.2.trans (hb.mono (by omega))⟩
end
section
open Go.RowKit
attribute [local go_sem] Qc2 Qdd ByteArray.mk_append_mk QcO QcP
theorem QdT (v n least:Nat) (t:List UInt8) (h1:least<=v) (h2:v<256 ^ n) (h3:v≠Qcb):Qcn (Qaz v n++t) n least=(v,1+n,0):=by
 have ht:(Qaz v n++t).take n=Qaz v n:=by
  rw [List.take_append_of_le_length (by rw [QaG];exact Nat.le_refl _),List.take_of_length_le (by rw [QaG];exact Nat.le_refl _)]
 have hn:num (Qaz v n)=v:=by rw [Qkt,Nat.mod_eq_of_lt h2]
 rw [Qcn,if_neg (by rw [List.length_append,QaG];omega),ht,hn,if_neg (by omega)]
theorem Qn2 (r:List UInt8):QbD (10::r)=Qcn r 1 2:=by
 rw [QbD,if_neg (by decide),if_neg (by decide),if_pos (by decide)]
theorem Qn3 (r:List UInt8):QbD (11::r)=Qcn r 2 256:=by
 rw [QbD,if_neg (by decide),if_neg (by decide),if_neg (by decide),if_pos (by decide)]
theorem Qn4 (r:List UInt8):QbD (12::r)=Qcn r 4 65536:=by
 rw [QbD,if_neg (by decide),if_neg (by decide),if_neg (by decide),if_neg (by decide),if_pos (by decide)]
theorem Qn5 (r:List UInt8):QbD (14::r)=Qcn r 8 4294967296:=by
 rw [QbD,if_neg (by decide),if_neg (by decide),if_neg (by decide),if_neg (by decide),if_neg (by decide),if_pos (by decide)]
theorem Qmm (v:Nat) (t:List UInt8) (hv:v<=Qcb):QbD (QaZ v++t)=(v,(QaZ v).length,0):=by
 have htop:Qcb=18446744073709551615:=rfl;unfold QaZ;by_cases h1:v<=1
 ·rw [if_pos h1];obtain rfl|rfl:v=0\/v=1:=by omega
  ·rfl
  ·rfl
 ·rw [if_neg h1];by_cases h2:v=Qcb
  ·rw [if_pos h2,h2];rfl
  ·rw [if_neg h2];by_cases h3:v<256
   ·rw [if_pos h3];rw [List.cons_append,Qn2];rw [QdT v 1 2 t (by omega) (by omega) h2];simp [QaG]
   ·rw [if_neg h3];by_cases h4:v<65536
    ·rw [if_pos h4];rw [List.cons_append,Qn3];rw [QdT v 2 256 t (by omega) (by omega) h2];simp [QaG]
    ·rw [if_neg h4];by_cases h5:v<4294967296
     ·rw [if_pos h5];rw [List.cons_append,Qn4];rw [QdT v 4 65536 t (by omega) (by omega) h2];simp [QaG]
     ·rw [if_neg h5];rw [List.cons_append,Qn5];rw [QdT v 8 4294967296 t (by omega) (by omega) h2];simp [QaG]
end
section
open Go.RowKit
attribute [local go_sem] Qc2 Qdd ByteArray.mk_append_mk QcO QcP Qir
theorem QkN (s:List UInt8):∀ n p acc,(Qbl s n p acc).1.length<=acc.length+n
 | 0,_,_=>Nat.le_refl _
 | n+1,p,acc=>by
   rw [Qbl];split
   ·have:=QkN s n (p+4) (acc++[(QbZ (s.drop p)).1]);rw [List.length_append,List.length_singleton] at this;omega
   ·exact Nat.zero_le _
theorem QpD (s:List UInt8):(QaA s).segs.length<=255:=by
 rw [Qma];generalize QbI s=r;generalize Qpt s r=u;generalize Qis s r=p;unfold QaC;have h:=Qf0 (s.drop p) (32-u) (decide (0<p));dsimp only;split
 ·simp [Qcl]
 ·split
  ·split
   ·have:=QkN s (Qbi (s.drop p) (32-u) (decide (0<p))).1.toNat (p+(Qbi (s.drop p) (32-u) (decide (0<p))).2.1.toNat) [];simp only [List.length_nil] at this;show (Qbl _ _ _ _).1.length<=255;omega
   ·simp [Qcl]
  ·simp [Qcl]
def QvV (w:World) (r:PathR) (e:Ending) (w':World):Prop :=
 ∃ a n c,e = .returned (.tuple #[.agg #[.bool r.root,.int .i64 r.up,.slice a n c],.int .i64 r.pos,.int .i64 r.err])/\Hid (StrsAt w' (.slice a n c) r.segs)/\Hid (Below w.heap.size w w')
theorem Qwj (s:List UInt8) (w:World) (hm:s.length<=9223372036854774000):Calls Tryz.prog 152 #[.string ⟨s.toArray⟩] w (QvV w (QaA s)) :=
 (QsT s w hm).mono fun _ _ ⟨v,he,ho,hb⟩=>by
  obtain ⟨a,n,c,rfl⟩:=Qmf ho;exact ⟨a,n,c,he,Za (StrsAt.of_own ho (by have:=QpD s;omega)),Za hb⟩
end
section

end
section
open Go.RowKit
def Qbd (op:Int):Nat :=
 if 10<=op/\op<=21 then (op+6).toNat else if 30<=op/\op<=42 then (op+82).toNat else if 60<=op/\op<=88 then (op+68).toNat
 else if op=50 then 48 else if op=51 then 49 else if op=5 then 63 else if op=6 then 96 else if op=7 then 104 else 0
def QdO (op:Int):Bool:=decide (10<=op/\op<=21)||decide (30<=op/\op<=42)||decide (60<=op/\op<=88)||op==50||op==51||op==5||op==6||op==7
def Qbu (s:List UInt8):List UInt8:=Qbg (QaO s) (Qbm s) (QaF s)
def QaB (sub:Nat->List UInt8×Nat):Nat->Nat->List UInt8×Nat
 | 0,i=>([],i)
 | m+1,i=>((sub i).1++(QaB sub m (sub i).2).1,(QaB sub m (sub i).2).2)
def Qak (p:List Nd):Nat->Nat->List UInt8×Nat
 | 0,i=>([],i)
 | d+1,i=>match p[i]? with
   | none=>([],i)
   | some n =>
     if n.kind=1 then (QaZ n.num.toNat,i+1)
     else if n.kind=2 then (Qco n.str,i+1)
     else if n.kind=3 then (Qbu n.str,i+1)
     else if n.kind=4 then (QaP ((QaB (Qak p d) n.pos.toNat (i+1)).1.length:Nat)++(QaB (Qak p d) n.pos.toNat (i+1)).1,(QaB (Qak p d) n.pos.toNat (i+1)).2)
     else if n.kind=6\/n.kind=7 then ([UInt8.ofNat (Qbd n.kind+n.num.toNat)],i+1)
     else if n.kind=5 then (63::(Qbu n.str++UInt8.ofNat n.pos.toNat::(QaB (Qak p d) n.pos.toNat (i+1)).1),(QaB (Qak p d) n.pos.toNat (i+1)).2)
     else if n.kind=33 then (115::UInt8.ofNat n.pos.toNat::(QaB (Qak p d) n.pos.toNat (i+1)).1,(QaB (Qak p d) n.pos.toNat (i+1)).2)
     else if n.kind=31 then (113::((QaB (Qak p d) 2 (i+1)).1++UInt8.ofNat (n.pos-2).toNat::(QaB (Qak p d) (n.pos-2).toNat (QaB (Qak p d) 2 (i+1)).2).1),(QaB (Qak p d) (n.pos-2).toNat (QaB (Qak p d) 2 (i+1)).2).2)
     else (UInt8.ofNat (Qbd n.kind)::(QaB (Qak p d) n.pos.toNat (i+1)).1,(QaB (Qak p d) n.pos.toNat (i+1)).2)
def Qbe (p:List Nd):Nat->Nat->List UInt8
 | 0,_=>[]
 | f+1,i=>if p.length<=i then [] else (Qak p 32 i).1++Qbe p f (Qak p 32 i).2
def QcS (p:List Nd):List UInt8×Int :=
 if QaS p=false then ([],1) else if 65536<(Qbe p p.length 0).length then ([],11) else (Qbe p p.length 0,0)
def chV (p:List Nd) (d:Nat):Nat->Nat->Nat->Prop
 | 0,i,j=>i=j
 | m+1,i,j=>∃ b k q,Qan p d b k i=some q/\chV p d m q j
theorem QvW {p:List Nd} {d:Nat} {k:UInt8}:∀ (m i j:Nat),Qbn (Qan p d false k) m i=some j->chV p d m i j
 | 0,i,j,h=>by rw [Qbn] at h;injection h
 | m+1,i,j,h=>by
   rw [Qbn] at h;cases hx:Qan p d false k i with
   | none=>rw [hx] at h;cases h
   | some q=>rw [hx] at h;exact ⟨false,k,q,hx,QvW m q j h⟩
theorem Qn6 {p:List Nd} {d:Nat}:∀ (ks:List UInt8) (i j:Nat),QaT (fun k j=>Qan p d (QaQ k) k j) ks i=some j->chV p d ks.length i j
 | [],i,j,h=>by rw [QaT] at h;injection h
 | k::ks,i,j,h=>by
   rw [QaT] at h;cases hx:Qan p d (QaQ k) k i with
   | none=>rw [hx] at h;cases h
   | some q=>rw [hx] at h;exact ⟨_,k,q,hx,Qn6 ks q j h⟩
theorem Qd7 {p:List Nd} {d:Nat}:∀ (a b i j:Nat),chV p d (a+b) i j->∃ q,chV p d a i q/\chV p d b q j
 | 0,b,i,j,h=>⟨i,rfl,by rwa [Nat.zero_add] at h⟩
 | a+1,b,i,j,h=>by
   rw [show a+1+b=(a+b)+1 by omega] at h;obtain ⟨bb,k,q,hq,h⟩:=h;obtain ⟨r,h1,h2⟩:=Qd7 a b q j h;exact ⟨r,⟨bb,k,q,hq,h1⟩,h2⟩
theorem QhT {p:List Nd} {d:Nat}:∀ (m i j:Nat),chV p d m i j->i<=p.length->i+m<=j/\j<=p.length
 | 0,i,j,h,hi=>by cases h;omega
 | m+1,i,j,h,hi=>by
   obtain ⟨b,k,q,hq,h⟩:=h;have h1:=Qau p d b k i q hq;have:=QhT m q j h h1.2;omega
theorem QgJ {n:Nd} {ks:List UInt8} (h:QbH n=some ks):0<=n.pos/\n.pos.toNat=ks.length/\(n.kind=5->n.pos<=7)/\(n.kind=33->n.pos<=1)/\(n.kind=31->n.pos=2\/n.pos=3)/\((n.kind=1\/n.kind=2\/n.kind=3\/n.kind=4\/n.kind=6\/n.kind=7)->n.pos=0):=by
 unfold QbH at h;split at h
 ·next h5 =>
  split at h
  ·next hp=>injection h with h;subst h;rw [List.length_replicate];omega
  ·cases h
 split at h
 ·next h5 h33 =>
  split at h
  ·next hp=>injection h with h;subst h;rw [List.length_replicate];omega
  ·cases h
 split at h
 ·next h3=>injection h with h;subst h;rw [h3.1,h3.2];decide
 split at h
 ·next h5 h33 h31 hp =>
  injection h with h;subst h;refine ⟨by omega,by omega,fun e=>absurd e h5,fun e=>absurd e h33,fun e=>?_,fun e=>?_⟩
  ·rw [e] at hp;have:((QaE 31).2.length:Int)=2:=by decide
   omega
  ·have h0:((QaE n.kind).2.length:Int)=0:=by
    rcases e with e|e|e|e|e|e<;>(rw [e];decide)
   omega
 ·cases h
structure NdV (n:Nd):Prop where
 pos:0<=n.pos
 str:n.kind=2->n.str.length<=255
 path:n.kind=3\/n.kind=5->QaY n.str=true
 loc:n.kind=6->n.num<8
 arg:n.kind=7->n.num<7
 call:n.kind=5->n.pos<=7
 ret:n.kind=33->n.pos<=1
 cond:n.kind=31->n.pos=2\/n.pos=3
 leaf:n.kind=1\/n.kind=2\/n.kind=3\/n.kind=6\/n.kind=7->n.pos=0
theorem QgK {n:Nd} {k:UInt8} (h:Qa5 n k=true):(n.kind=2->n.str.length<=255)/\(n.kind=3\/n.kind=5->QaY n.str=true)/\(n.kind=6->n.num<8)/\(n.kind=7->n.num<7):=by
 unfold Qa5 at h;rw [Bool.and_eq_true] at h;obtain ⟨h1,h2⟩:=h;refine ⟨fun e=>?_,fun e=>?_,fun e=>?_,fun e=>?_⟩
 ·rw [if_neg (by omega),if_pos e] at h2;exact of_decide_eq_true h2
 ·rw [if_pos e] at h2;unfold Qec at h2;rw [Bool.and_eq_true] at h2;exact h2.1
 ·rw [if_neg (by omega),if_pos e] at h1;exact of_decide_eq_true h1
 ·rw [if_neg (by omega),if_neg (by omega),if_pos e] at h1;exact of_decide_eq_true h1
theorem Qf2 {p:List Nd} {d:Nat} {b:Bool} {k:UInt8} {i j:Nat} (h:Qan p (d+1) b k i=some j):∃ n,p[i]?=some n/\NdV n/\chV p d n.pos.toNat (i+1) j:=by
 cases b with
 | true =>
   obtain ⟨n,hn,⟨h1,h2,h3,h4⟩,hx⟩:=Qg5 h;exact ⟨n,hn,⟨h4,fun e=>by omega,fun e=>by omega,fun e=>by omega,fun e=>by omega,fun e=>by omega,fun e=>by omega,fun e=>by omega,fun e=>by omega⟩,QvW _ _ _ hx⟩
 | false =>
   obtain ⟨n,ks,hn,ha,hf,hk,hx⟩:=Qg4 h;obtain ⟨k0,k1,k2,k3,k4,k5⟩:=QgJ hk;obtain ⟨f1,f2,f3,f4⟩:=QgK hf;exact ⟨n,hn,⟨k0,f1,f2,f3,f4,k2,k3,k4,fun e=>k5 (by omega)⟩,by rw [k1];exact Qn6 _ _ _ hx⟩
theorem QdU {p:List Nd} {d:Nat} {sub:Nat->List UInt8×Nat} (hs:∀ b k i j,Qan p d b k i=some j->(sub i).2=j):∀ (m i j:Nat),chV p d m i j->(QaB sub m i).2=j
 | 0,i,j,h=>by rw [QaB];exact h
 | m+1,i,j,h=>by
   obtain ⟨b,k,q,hq,h⟩:=h;rw [QaB];simp only [hs b k i q hq];exact QdU hs m q j h
theorem Qa7 (p:List Nd):∀ (d:Nat) (b:Bool) (k:UInt8) (i j:Nat),Qan p d b k i=some j->(Qak p d i).2=j
 | 0,b,k,i,j,h=>by rw [Qan] at h;cases h
 | d+1,b,k,i,j,h=>by
   obtain ⟨n,hn,hv,hc⟩:=Qf2 h;have H:∀ m i j,chV p d m i j->(QaB (Qak p d) m i).2=j:=fun m i j h=>QdU (fun b k i j h=>Qa7 p d b k i j h) m i j h;have h0:n.pos=0->i+1=j:=fun e=>by rw [e] at hc;exact hc
   rw [Qak,hn];simp only [];split
   ·exact h0 (hv.leaf (by omega))
   split
   ·exact h0 (hv.leaf (by omega))
   split
   ·exact h0 (hv.leaf (by omega))
   split
   ·exact H _ _ _ hc
   split
   ·exact h0 (hv.leaf (by omega))
   split
   ·exact H _ _ _ hc
   split
   ·exact H _ _ _ hc
   split
   ·next h31 =>
    have hp:=hv.cond h31;obtain ⟨q,h1,h2⟩:=Qd7 2 (n.pos-2).toNat (i+1) j (by rw [show 2+(n.pos-2).toNat=n.pos.toNat by omega];exact hc);show (QaB (Qak p d) (n.pos-2).toNat (QaB (Qak p d) 2 (i+1)).2).2=j;rw [H _ _ _ h1];exact H _ _ _ h2
   ·exact H _ _ _ hc
theorem Qiu:∀ (l:List (List UInt8)),(∀ x∈l,Qa2 x=true)->(l.flatMap Qci).length=4 * l.length
 | [],_=>rfl
 | x::r,h=>by
   obtain ⟨h1,h4⟩:=QbG (h x (by simp));rw [List.flatMap_cons,List.length_append,Qhc h1 h4,Qiu r (fun y hy=>h y (by simp [hy])),List.length_cons];omega
theorem QuG (n:Nat):(Qav n).length<=2:=by
 unfold Qav;split
 ·simp
 split
 ·simp
 split
 ·simp [Qaz]
 ·simp
theorem QkO {s:List UInt8} (h:QaY s=true):(Qbu s).length<=3+Qbm s+4 * (QaF s).length:=by
 unfold Qbu Qbg;rw [List.length_append,List.length_append,List.length_append,List.length_replicate,Qiu]
 ·have:=QuG (QaF s).length;have:(Qbv (QaO s)).length<=1:=by cases QaO s<;>decide
  omega
 ·unfold QaY QaD at h;rw [Bool.and_eq_true,List.all_eq_true] at h;exact h.2
theorem Qfn {s:List UInt8} (h:QaY s=true):Qbm s<=32/\(QaF s).length<=32:=by
 unfold QaY QaD QfU at h;rw [Bool.and_eq_true,decide_eq_true_eq] at h;omega
theorem Qhd {s:List UInt8} (h:QaY s=true):(Qbu s).length<=163:=by
 have:=QkO h;have:=Qfn h;omega
theorem Qef (s:List UInt8):(Qco s).length=s.length+2:=by unfold Qco;simp
section
variable {p:List Nd}
theorem Qn7 {d c:Nat} (hs:∀ b k i j,Qan p d b k i=some j->(Qak p d i).1.length<=c * (j-i)):∀ (m i j:Nat),chV p d m i j->(QaB (Qak p d) m i).1.length<=c * (j-i)
 | 0,i,j,h=>by rw [QaB];exact Nat.zero_le _
 | m+1,i,j,h=>by
   obtain ⟨b,k,q,hq,h⟩:=h;have h1:=hs b k i q hq;have h2:=Qn7 hs m q j h;have hq':=Qau p d b k i q hq;have hj:=QhT m q j h hq'.2;have:c * (j-i)=c * (q-i)+c * (j-q):=by rw [<- Nat.mul_add];congr 1;omega
   rw [QaB,List.length_append];simp only [Qa7 p d b k i q hq];omega
theorem Qi0 (c:Nat) (h9:10<=c) (hP:∀ n∈p,NdV n->(n.kind=2->n.str.length+2<=c)/\(n.kind=3\/n.kind=5->(Qbu n.str).length+2<=c)):∀ (d:Nat) (b:Bool) (k:UInt8) (i j:Nat),Qan p d b k i=some j->(Qak p d i).1.length<=c * (j-i)
 | 0,b,k,i,j,h=>by rw [Qan] at h;cases h
 | d+1,b,k,i,j,h=>by
   have hg:=Qau p (d+1) b k i j h;obtain ⟨n,hn,hv,hc⟩:=Qf2 h;obtain ⟨hp2,hp3⟩:=hP n (List.mem_of_getElem? hn) hv;have H:=Qn7 (c:=c) (fun b k i j h=>Qi0 c h9 hP d b k i j h);have hlt:i+1<=p.length:=by have:=(List.getElem?_eq_some_iff.1 hn).1;omega
   have hj:=QhT _ _ _ hc hlt;have e:c * (j-i)=c+c * (j-(i+1)):=by rw [show j-i=(j-(i+1))+1 by omega,Nat.mul_add,Nat.mul_one];omega
   rw [Qak,hn];simp only [];split
   ·have:=Qkz n.num.toNat
    show (QaZ n.num.toNat).length<=_;omega
   split
   ·next h2=>show (Qco n.str).length<=_;have:=hp2 h2;rw [Qef];omega
   split
   ·next h3=>show (Qbu n.str).length<=_;have:=hp3 (.inl h3);omega
   split
   ·show (_++_:List UInt8).length<=_;rw [List.length_append];have h1:=H _ _ _ hc;have h2:=QhR ((QaB (Qak p d) n.pos.toNat (i+1)).1.length:Nat);omega
   split
   ·show 1<=_;omega
   split
   ·next h5 =>
    show (_::(_++_::_):List UInt8).length<=_;have h1:=H _ _ _ hc;have:=hp3 (.inr h5);rw [List.length_cons,List.length_append,List.length_cons];omega
   split
   ·show (_::_::_:List UInt8).length<=_;have h1:=H _ _ _ hc;rw [List.length_cons,List.length_cons];omega
   split
   ·next h31 =>
    have hp:=hv.cond h31;obtain ⟨q,h1,h2⟩:=Qd7 2 (n.pos-2).toNat (i+1) j (by rw [show 2+(n.pos-2).toNat=n.pos.toNat by omega];exact hc);have hq:(QaB (Qak p d) 2 (i+1)).2=q:=QdU (fun b k i j h=>Qa7 p d b k i j h) _ _ _ h1;show (_::(_++_::_):List UInt8).length<=_;have l1:=H _ _ _ h1;have l2:=H _ _ _ h2;have hq1:=QhT _ _ _ h1 hlt;have hq2:=QhT _ _ _ h2 hq1.2;have e2:c * (j-(i+1))=c * (q-(i+1))+c * (j-q):=by rw [<- Nat.mul_add];congr 1;omega
    rw [List.length_cons,List.length_append,List.length_cons,hq];omega
   ·show (_::_:List UInt8).length<=_;have h1:=H _ _ _ hc;rw [List.length_cons];omega
theorem Qnc {d:Nat} {b:Bool} {k:UInt8} {i j:Nat} (h:Qan p d b k i=some j):(Qak p d i).1.length<=257 * (j-i) :=
 Qi0 257 (by omega) (fun n _ hv=>⟨fun e=>by have:=hv.str e;omega,fun e=>by have:=Qhd (hv.path e);omega⟩) d b k i j h
theorem QhU (c:Nat) (hs:∀ b k i j,Qan p 32 b k i=some j->(Qak p 32 i).1.length<=c * (j-i)):∀ (f i:Nat),QbT p f i=true->(Qbe p f i).length<=c * (p.length-i)
 | 0,i,h=>by rw [Qbe];exact Nat.zero_le _
 | f+1,i,h=>by
   rw [Qbe];rw [QbT] at h;split
   ·exact Nat.zero_le _
   ·next hi =>
    rw [if_neg hi] at h;cases hx:Qan p 32 false 68 i with
    | none=>rw [hx] at h;cases h
    | some j =>
      rw [hx] at h;have h1:=hs _ _ _ _ hx;have hg:=Qau p 32 false 68 i j hx;rw [List.length_append,Qa7 p 32 false 68 i j hx];have h2:=QhU c hs f j h;have:c * (p.length-i)=c * (j-i)+c * (p.length-j):=by rw [<- Nat.mul_add];congr 1;omega
      omega
theorem Qn8 (h:QaS p=true):(Qbe p p.length 0).length<=526336:=by
 unfold QaS at h;rw [Bool.and_eq_true,decide_eq_true_eq] at h;have:=QhU 257 (fun b k i j h=>Qnc h) p.length 0 h.2;have:257 * (p.length-0)<=257 * 2048:=Nat.mul_le_mul_left _ (by omega);omega
end
end
section
open Go.RowKit
theorem QuH {c:UInt8} (h:idB c=true):c≠46/\c≠94/\c≠92:=by
 unfold idB QaK Qba at h;simp only [Bool.or_eq_true,decide_eq_true_eq] at h;refine ⟨?_,?_,?_⟩<;>(rintro rfl;simp at h)
theorem QkP {x:List UInt8} (h:Qa2 x=true):x≠[]/\∀ c∈x,c≠46/\c≠94/\c≠92:=by
 match x,h with
 | c::r,h =>
   refine ⟨by simp,fun d hd=>?_⟩;unfold Qa2 at h;simp only [Bool.and_eq_true] at h;exact QuH (List.all_eq_true.1 h.1.2 d hd)
theorem Qiv:∀ (x s:List UInt8),(∀ c∈x,c≠46)->QaM (x++46::s)=x::QaM s
 | [],s,_=>Qdh s
 | c::x,s,h=>by
   rw [List.cons_append];exact Qbx c _ (h c (by simp)) x _ (Qiv x s (fun d hd=>h d (by simp [hd])))
theorem QkQ:∀ (x:List UInt8),(∀ c∈x,c≠46)->QaM x=[x]
 | [],_=>rfl
 | c::x,h=>Qbx c _ (h c (by simp)) x _ (QkQ x (fun d hd=>h d (by simp [hd])))
theorem QjA:∀ (l:List (List UInt8)),l≠[]->(∀ x∈l,∀ c∈x,c≠46)->QaM (QbK l)=l
 | [],h,_=>absurd rfl h
 | [x],_,h=>by rw [Qcs];exact QkQ x (h x (by simp))
 | x::y::r,_,h=>by
   rw [Qb5,Qiv x _ (h x (by simp)),QjA (y::r) (by simp) (fun z hz=>h z (by simp [hz]))]
theorem QhV {l:List (List UInt8)} (h:∀ x∈l,Qa2 x=true) (hl:l≠[]):∃ c t,QbK l=c::t/\c≠94/\c≠92:=by
 match l,hl with
 | [x],_ =>
   obtain ⟨h1,h2⟩:=QkP (h x (by simp))
   match x,h1 with
   | c::r,_=>exact ⟨c,r,Qcs _,(h2 c (by simp)).2.1,(h2 c (by simp)).2.2⟩
 | x::y::r',_ =>
   obtain ⟨h1,h2⟩:=QkP (h x (by simp))
   match x,h1 with
   | c::r,_=>exact ⟨c,_,Qb5 _ _ _,(h2 c (by simp)).2.1,(h2 c (by simp)).2.2⟩
theorem Qqm (n:Nat) (c:UInt8) (t:List UInt8) (h:c≠94):(List.replicate n 94++c::t).dropWhile (·==94)=c::t/\((List.replicate n 94++c::t).takeWhile (·==94)).length=n:=by
 induction n with
 | zero=>simp [h]
 | succ n ih=>rw [List.replicate_succ,List.cons_append];simp [ih.1,h]
theorem Qn9 (n:Nat):(List.replicate n (94:UInt8)).dropWhile (·==94)=[]/\((List.replicate n (94:UInt8)).takeWhile (·==94)).length=n:=by
 induction n with
 | zero=>simp
 | succ n ih=>rw [List.replicate_succ];simp [ih.1,ih.2]
theorem Qrx {root:Bool} {up:Int} {l:List (List UInt8)} (h:QaD root up l=true):QaY (QdR root up l)=true/\QaO (QdR root up l)=root/\Qbm (QdR root up l)=up.toNat/\QaF (QdR root up l)=l:=by
 obtain ⟨h1,h2,h3,h4,h5⟩:=Qd6 h;have hs:=QbM h;have e:QdR root up l=QjV root up l:=by rw [QdR,if_pos h]
 have key:QaO (QjV root up l)=root/\Qbm (QjV root up l)=up.toNat/\Qby (QjV root up l)=QbK l:=by
  unfold Qbm Qby QjV;cases root
  ·have hr:QaO (List.replicate up.toNat 94++QbK l)=false:=by
    unfold QaO Lib.hasPrefix;cases hn:up.toNat with
    | zero =>
      have hl:l≠[]:=by
       rintro rfl;simp at h5;omega
      obtain ⟨c,t,e,_,e2⟩:=QhV hs hl;rw [e];simp [List.isPrefixOf,Ne.symm e2]
    | succ n=>rw [List.replicate_succ];simp [List.isPrefixOf]
   simp only [Bool.false_eq_true,if_false,hr,true_and];by_cases hl:l=[]
   ·subst hl;rw [Qd5,List.append_nil];exact ⟨(Qn9 _).2,(Qn9 _).1⟩
   ·obtain ⟨c,t,e,e1,_⟩:=QhV hs hl;rw [e];exact ⟨(Qqm _ c t e1).2,(Qqm _ c t e1).1⟩
  ·have hr:QaO ([92]++QbK l)=true:=by simp [QaO,Lib.hasPrefix,List.isPrefixOf]
   simp only [if_true,hr,true_and];refine ⟨by rw [h3 rfl];rfl,by simp⟩
 obtain ⟨k1,k2,k3⟩:=key;have k4:QaF (QjV root up l)=l:=by
  unfold QaF;rw [k3];by_cases hl:l=[]
  ·subst hl;rw [Qd5];rfl
  ·obtain ⟨c,t,e,_⟩:=QhV hs hl;rw [if_neg (by rw [e];simp)];exact QjA l hl (fun x hx c hc=>((QkP (hs x hx)).2 c hc).1)
 rw [e];refine ⟨?_,k1,k2,k4⟩;unfold QaY;rw [k1,k2,k4];rw [Int.toNat_of_nonneg h1];exact h
theorem Qs0 {root:Bool} {up:Int} {l:List (List UInt8)} (h:QaD root up l=true):(QdR root up l).length<=1000:=by
 obtain ⟨h1,h2,h3,h4,h5⟩:=Qd6 h;have:=Qjv h;rw [QdR,if_pos h,QjV,List.length_append];split<;>simp<;>omega
end
end Go.Proofs.YtoohondkpddmcaaGreatDoor
