/- Ntr Lm Ln Mn -/
import Derived.Test.YtoohondkpddmcaaGreatDoorUzz
import Derived.Test.YtoohondkpddmcaaGreatDoorUai
import Derived.Test.YtoohondkpddmcaaGreatDoorUad
import Derived.Test.YtoohondkpddmcaaGreatDoorUaq
import Derived.Test.YtoohondkpddmcaaGreatDoorUao
import Derived.Lib.AppendStr
import Derived.Laws.AppendOwnNone
import Derived.Test.YtoohondkpddmcaaGreatDoorUap
namespace Go.Proofs.YtoohondkpddmcaaGreatDoor
set_option maxHeartbeats 32000000
set_option linter.unusedVariables false
set_option linter.unusedSimpArgs false
section
open Go.RowKit
attribute [local go_sem] ByteArray.mk_append_mk Qac Qad Qae
theorem Qwm (w:World) (o:Obj):Below w.heap.size w (w.alloc o)/\(w.alloc o).heap[w.heap.size]?=some o :=
 ⟨Zb.alloc Zc _,heap_alloc_new _ _⟩
theorem StrsAt.one {w:World} {b:Nat} {x:List UInt8} (h:w.heap[b]?=some (.cells #[Qb4 x] 9 (0,0))):StrsAt w (.slice (some ⟨b,0,none⟩) 1 1) [x]:=by
 refine ⟨_,1,rfl,by simp,⟨(fun h=>by cases h),by simp⟩,fun _=>⟨b,0,rfl,fun k hk=>?_⟩⟩;simp only [List.length_cons,List.length_nil] at hk;obtain rfl:k=0:=by omega
 exact (cell_of_row w b 0 _ _ _ h).trans rfl
theorem Qix {w:World} {B e z:Nat} {v:Value} {n:Nat} {xs:List Value} (h:w.ownsRow B e z v n xs):∃ (a:Option Addr) (c:Nat),v = .slice a n c:=by
 rcases h.2 with ⟨h1,rfl⟩|⟨g,cap,cur,h1,_⟩
 ·exact ⟨_,_,h1⟩
 ·exact ⟨_,_,h1⟩
theorem Qk0 {x:List UInt8} (h:Qa2 x=true):x.length<=4:=by
 cases x with
 | nil=>simp
 | cons c r =>
   unfold Qa2 at h;simp only [Bool.and_eq_true,decide_eq_true_eq] at h;simp only [List.length_cons];omega
def SameAt (W:World) (a:Addr) (x:World):Prop:=x.cell? a=W.cell? a
theorem SameAt.some (W:World) (a:Addr):(∃ x,SameAt W a x)=True:=by simp only [eq_iff_iff,iff_true];exact ⟨W,rfl⟩
theorem SameAt.all (W:World) (a:Addr) (p:Prop):(∀ x,SameAt W a x->p)=p:=by
 apply propext;exact ⟨fun h=>h W rfl,fun h _ _=>h⟩
attribute [local go_sem] SameAt.some SameAt.all
theorem Qf9:∀ (r:List UInt8),∃ x y,r=x++y/\(∀ c∈x,c≠46)/\((y=[]/\QaM r=[x])\/∃ t,y=46::t/\QaM r=x::QaM t)
 | []=>⟨[],[],rfl,by simp,.inl ⟨rfl,rfl⟩⟩
 | c::r=>by
   by_cases hc:c=46
   ·subst hc;exact ⟨[],46::r,rfl,by simp,.inr ⟨r,rfl,Qdh r⟩⟩
   ·obtain ⟨x,y,h1,h2,h3⟩:=Qf9 r;refine ⟨c::x,y,by rw [h1];rfl,?_,?_⟩
    ·intro d hd;rcases List.mem_cons.1 hd with rfl|hd
     ·exact hc
     ·exact h2 d hd
    ·rcases h3 with ⟨h3,h4⟩|⟨t,h3,h4⟩
     ·exact .inl ⟨h3,Qbx c r hc x [] h4⟩
     ·exact .inr ⟨t,h3,Qbx c r hc x _ h4⟩
theorem QhX (tmps:Array Value) (w:World) (b:Nat) (c0 c1 c2:Value) (h2:tmps.getD 2 undef = .pointer (some ⟨b,0,none⟩)) (hb:w.heap[b]?=some (.cells #[c0,c1,c2] 128 (0,0))) :
  (results Tryz.f91 tmps).run Tryz.prog w = .ok (.tuple #[.agg #[c0,c1,c2],tmps.getD 3 undef]) w:=by
 obtain ⟨e0,e1,e2⟩:=Qa4 hb;have h2':tmps[2]?.getD undef = .pointer (some ⟨b,0,none⟩):=by rw [<- h2];simp
 simp [results];go_simp
theorem QAt.bel {w wr:World} {root:Bool} {up:Int} {v:Value} (h:QAt w wr root up v):Below w.heap.size w wr:=h.2.2
theorem QAt.grown {w wr w2:World} {root:Bool} {up:Int} {v:Value} {row:Option Nat} (h:QAt w wr root up v) (hg:wr.grownBy w2 row) (hr:∀ g,row=some g->w.heap.size+2<=g):QAt w w2 root up v :=
 ⟨QgZ h.1 hg (fun e=>by have:=hr _ e.symm;omega),QgZ h.2.1 hg (fun e=>by have:=hr _ e.symm;omega),h.2.2.grown hg h.2.2.size (fun k e=>by have:=hr k e;omega)⟩
theorem QAt.lt {w wr:World} {root:Bool} {up:Int} {v:Value} (h:QAt w wr root up v):w.heap.size+2<=wr.heap.size:=lt_of_block h.2.1
theorem Qk1 (c:UInt8) (d:UInt8):((c.toNat:Int)==(d.toNat:Int))=(d==c):=by
 rw [Bool.eq_iff_iff,beq_iff_eq,beq_iff_eq];constructor
 ·intro h;exact (UInt8.toNat_inj.1 (by omega)).symm
 ·rintro rfl;rfl
theorem Qiy (c d:UInt8) (t:List UInt8):Lib.hasPrefix (c::t) [d]=(d==c):=by simp [Lib.hasPrefix,List.isPrefixOf]
theorem QhY {root:Bool} {up:Int} {l:List (List UInt8)} {x:List UInt8} (hx:x∈l) (h:Qa2 x=false):QaD root up l=false:=by
 cases hv:QaD root up l
 ·rfl
 ·rw [QbM hv x hx] at h;cases h
def Qwn (s:List UInt8) (st i:Nat) (dn:List (List UInt8)):Prop :=
 (∀ x∈dn,Qa2 x=true)/\2 * dn.length<=i/\st<=i/\i<=s.length+1/\((i<s.length/\QaM (Qby s)=dn++QaM (s.drop i)/\(st<i->s[i-1]?=some 46))\/(s.length<=i/\QaF s=dn))
set_option maxRecDepth 100000 in
theorem Qga (s:List UInt8) (w:World) (hs:s.length<=1048576) :
  Calls Tryz.prog 91 #[.string ⟨s.toArray⟩] w (Qct w s):=by
 have HQ:=Za (QAt.start w);obtain ⟨root,hroot⟩:∃ b,Hid (QaO s=b):=⟨_,Za rfl⟩;obtain ⟨N,hN⟩:∃ b,Hid (Qbm s=b):=⟨_,Za rfl⟩;obtain ⟨R,hR⟩:∃ b,Hid (Qby s=b):=⟨_,Za rfl⟩;obtain ⟨bs,hbs⟩:∃ b:Nat,Hid ((if root=true then 1 else 0)=b):=⟨_,Za rfl⟩;have hbsl:bs<=s.length:=by
  rw [<- hbs.out];split
  ·next h => 
   have:=hroot.out;rw [h] at this;unfold QaO at this;cases s with
   | nil=>cases this
   | cons=>simp
  ·omega
 have HJ:Hid (CarJ root N R 0 (s.drop bs)):=Za (by
  rw [<- hN.out,<- hR.out,<- hbs.out,<- hroot.out];refine ⟨fun h=>?_,fun h=>?_⟩
  ·refine ⟨by unfold Qbm;rw [if_pos h],?_⟩;unfold Qby;rw [if_pos h,if_pos h]
  ·have e1:Qbm s=(s.takeWhile (·==94)).length:=by unfold Qbm;rw [h];rfl
   have e2:Qby s=s.dropWhile (·==94):=by unfold Qby;rw [h];rfl
   rw [e1,e2,if_neg (by rw [h];decide),List.drop_zero];exact ⟨by omega,rfl⟩)
 go_enter Tryz.func91,Tryz.ntmps91;go_upto_region 3 with fail;obtain ⟨w0,hw0⟩:∃ x,((w.alloc (.cells #[.bool false,.int .i64 0,.slice none 0 0] 128)).alloc (.cells #[.bool false,.int .i64 0,.slice none 0 0] 128))=x:=⟨_,rfl⟩;rw [hw0] at HQ |-;clear hw0;go_cut [15] (fun z wx=>z = .bool root/\w0=wx)
 case first =>
  cases s with
  | nil =>
    have hr0:root=false:=hroot.out.symm;subst hr0;go_wp2_with fail;go_meet;exact ⟨rfl,rfl⟩
  | cons c t =>
    have hcc:((c.toNat:Int)==92)=root:=by
     rw [<- hroot.out,show (92:Int)=((92:UInt8).toNat:Int) from rfl,Qk1];exact (Qiy c 92 t).symm
    go_wp2_with fail;go_meet;exact ⟨rfl,rfl⟩
 case rest =>
  obtain ⟨rfl,rfl⟩:=hcut;obtain ⟨w1,rfl⟩:∃ x:World,x=w0:=⟨_,rfl⟩;go_upto_if 15 with fail;go_cut [5] (fun z wx=>z = .int .i64 bs/\Hid (QAt w wx root 0 (.slice none 0 0)))
  case first =>
   have hn:=HQ.out.2.1;obtain ⟨c0,c1,c2⟩:=Qa4 hn;have f0:=Qay hn 0;clear hn;have HQ1:=Za (HQ.out.root true);cases root
   ·have hb0:bs=0:=hbs.out.symm;subst hb0;go_wp2_with fail;go_meet;exact ⟨rfl,HQ⟩
   ·have hb0:bs=1:=hbs.out.symm;subst hb0;go_wp2_with fail;go_meet;exact ⟨rfl,HQ1⟩
  case rest =>
   obtain ⟨rfl,HQ1⟩:=hcut;obtain ⟨w2,rfl⟩:∃ x:World,x=wc:=⟨_,rfl⟩;clear HQ;go_wp2_with fail;go_loopw [5] (fun z wr=>∃ k:Nat,z = .int .i64 (bs+k:Nat)/\bs+k<=s.length/\Hid (CarJ root N R k (s.drop (bs+k)))/\Hid (QAt w wr root k (.slice none 0 0))) (fun z _=>s.length-(intOf z).toNat)
   case atStart=>exact ⟨0,by simp,by omega,by simpa using HJ,by simpa using HQ1⟩
   case round =>
    clear HQ1 HJ;obtain ⟨k,rfl,hk,HJ,HQ⟩:=hrel;obtain ⟨w3,rfl⟩:∃ x:World,x=wr:=⟨_,rfl⟩;obtain ⟨i,hi⟩:∃ i,bs+k=i:=⟨_,rfl⟩;rw [hi] at HJ hk |-;have hn:=HQ.out.2.1;obtain ⟨c0,c1,c2⟩:=Qa4 hn;have f1:=Qay hn 1;clear hn;go_upto_region 5 with fail;go_cut [31] (fun z wx=>z = .bool (!root&&Lib.hasPrefix (s.drop i) [94])/\w3=wx)
    case first =>
     cases root
     ·by_cases hlt:i<s.length
      ·have hcc:((s[i].toNat:Int)==94)=Lib.hasPrefix (s.drop i) [94]:=by
        rw [List.drop_eq_getElem_cons hlt,show (94:Int)=((94:UInt8).toNat:Int) from rfl,Qk1,Qiy]
       go_wp2_with fail;go_meet;exact ⟨rfl,rfl⟩
      ·have hdn:s.drop i=[]:=List.drop_eq_nil_of_le (by omega);have hdn2:Hid (Lib.hasPrefix (s.drop i) [94]=false):=Za (by rw [hdn]<;>rfl);clear hdn;go_wp2_with fail;go_meet;exact ⟨by rw [hdn2.out];rfl,rfl⟩
     ·go_wp2_with fail;go_meet;exact ⟨rfl,rfl⟩
    case rest =>
     obtain ⟨rfl,rfl⟩:=hcut;cases hb:(!root&&Lib.hasPrefix (s.drop i) [94])
     ·obtain ⟨rfl,rfl⟩:=HJ.out.last hb;clear hb HJ c0 c1 c2 f1;obtain ⟨w4,rfl⟩:∃ x:World,x=w3:=⟨_,rfl⟩;have HS0:Hid (Qwn s i i []):=Za (by
       refine ⟨by simp,by simp,Nat.le_refl _,by omega,?_⟩;by_cases hlt:i<s.length
       ·exact .inl ⟨hlt,by rw [hR.out];rfl,fun h=>absurd h (by omega)⟩
       ·refine .inr ⟨by omega,?_⟩;unfold QaF;rw [hR.out,if_pos (List.drop_eq_nil_of_le (by omega))])
      clear hk;go_wp2_with fail;go_loopw [5] (fun z wr=>∃ (n:Nat) (dn:List (List UInt8)) (a:Option Addr) (c:Nat),z = .int .i64 n/\Hid (Qwn s i n dn)/\Hid (QAt w wr root k (.slice a dn.length c))/\Hid (wr.ownsRow (w.heap.size+2) 9 1 (.slice a dn.length c) dn.length (dn.map Qb4))) (fun z _=>s.length+1-(intOf z).toNat)
      case atStart=>exact ⟨i,[],none,0,rfl,HS0,HQ,Za (Qm3 _ _)⟩
      case round =>
       clear HS0 HQ;obtain ⟨n,dn,a,c,rfl,HS,HQ,HO⟩:=hrel;obtain ⟨w5,rfl⟩:∃ x:World,x=wr:=⟨_,rfl⟩;by_cases hlt:n<s.length
       ·obtain ⟨j1,j2,j3,j4,j5⟩:=HS.out;have j6:QaM (Qby s)=dn++QaM (s.drop n)/\(i<n->s[n-1]?=some 46):=by
         rcases j5 with ⟨_,h⟩|⟨h,_⟩
         ·exact h
         ·omega
        obtain ⟨j7,j8⟩:=j6;have hne:Qby s≠[]:=by
         intro e;have h1:=j7;rw [e] at h1;have h2:=congrArg List.length h1;rw [List.length_append,QcE (s.drop n)] at h2;have hd0:dn=[]:=List.eq_nil_of_length_eq_zero (by simp [QaM] at h2;omega);rw [hd0] at h1;have h3:=hR.out;rw [e] at h3;have h4:=congrArg List.length h3;simp at h4;omega
        have HNE:=Za hne;have HSPL:=Za j7;have HSP:Hid (QaF s=dn++QaM (s.drop n)):=Za (by unfold QaF;rw [if_neg hne,j7]);obtain ⟨x,y,e1,e2,e3⟩:=Qf9 (s.drop n);have hlen:n+x.length+y.length=s.length:=by
         have:=congrArg List.length e1;simp at this;omega
        have HXC:Hid (∀ j (hj:j<x.length),∃ h:n+j<s.length,s[n+j]=x[j]/\x[j]≠46):=Za (by
         intro j hj;refine ⟨by omega,?_,e2 _ (List.getElem_mem hj)⟩;have h1:(s.drop n)[j]?=some x[j]:=by rw [e1,List.getElem?_append_left hj,List.getElem?_eq_getElem hj]
         rw [List.getElem?_drop,List.getElem?_eq_getElem (by omega)] at h1;exact Option.some.inj h1)
        have HCUT:Hid (List.take x.length (List.drop n s)=x):=Za (by rw [e1];simp);have HJ1:=Za j1;have HJ8:=Za j8;have HE3:Hid (y=[]/\QaM (s.drop n)=[x]\/∃ t,y=46::t/\QaM (s.drop n)=x::QaM t):=Za e3;have HY:Hid (List.drop (n+x.length) s=y):=Za (by rw [<- List.drop_drop,e1];simp);clear j1 j5 j7 j8 e1 e2 e3 hne HS;go_upto_block 4 with fail;go_cut [7] (fun z wx=>z = .int .i64 (n+x.length:Nat)/\w5=wx)
        case first =>
         go_wp2_with fail;go_loopw [7] (fun z wr=>∃ j:Nat,z = .int .i64 (n+j:Nat)/\j<=x.length/\w5=wr) (fun z _=>n+x.length-(intOf z).toNat)
         case atStart=>exact ⟨0,by simp,by omega,rfl⟩
         case round =>
          obtain ⟨j,rfl,hj,rfl⟩:=hrel;by_cases hj2:j<x.length
          ·obtain ⟨q0,q1,q2⟩:=HXC.out j hj2;have hcc:((s[n+j].toNat:Int) != 46)=true:=by
            rw [q1,bne,show (46:Int)=((46:UInt8).toNat:Int) from rfl,Qk1];simpa using fun e=>q2 e.symm
           clear q1 q2;go_wp2_with fail;go_roundw
           case rel=>exact ⟨j+1,by go_num,by omega,by trivial⟩
           case measure=>simp [intOf];omega
          ·obtain rfl:j=x.length:=by omega
           rcases HE3.out with ⟨rfl,_⟩|⟨t,rfl,_⟩
           ·simp at hlen;go_wp2_with fail;go_meet;exact ⟨by rw [hlen],rfl⟩
           ·have hq:n+x.length<s.length:=by simp at hlen;omega
            have hq2:s[n+x.length]=46:=by
             have h1:=HY.out;rw [List.drop_eq_getElem_cons hq] at h1;injection h1
            have hcc:((s[n+x.length].toNat:Int) != 46)=false:=by rw [hq2];rfl
            clear hq2;go_wp2_with fail;go_meet;exact ⟨rfl,rfl⟩
        case rest =>
         obtain ⟨rfl,rfl⟩:=hcut;obtain ⟨w6,rfl⟩:∃ x:World,x=w5:=⟨_,rfl⟩;obtain ⟨K,hK⟩:∃ K,n+x.length=K:=⟨_,rfl⟩;rw [hK];have hxl:K-n=x.length:=by omega
         obtain ⟨b,HB⟩:∃ b,Hid (Qa2 x=b):=⟨_,Za rfl⟩;have HXL:Hid (x.length<=9223372036854775000):=Za (by omega);go_upto_region 14 with fail;go_cut [82] (fun z wx=>z = .bool (!b||decide (K+1=s.length))/\w6=wx)
         case first =>
          have HSEG:=Za (Qdy x b HB w6 HXL.out);by_cases hin:i<n
          ·have hq0:n-1<s.length:=by omega
           have hq1:s[n-1]=46:=by
            have:=HJ8.out hin;rw [List.getElem?_eq_getElem hq0] at this;exact Option.some.inj this
           have hcc:((s[n-1].toNat:Int) != 46)=false:=by rw [hq1];rfl
           have hn1:((n:Int)-1).toNat=n-1:=by omega
           clear hq1;go_wp2_with fail;rw [HCUT.out];((with_reducible refine HSEG.out.mono ?_));rintro e w7 ⟨rfl,rfl⟩;cases b
           ·go_wp2_with fail;go_meet;exact ⟨rfl,rfl⟩
           ·by_cases hkl:K+1=s.length
            ·have hkb:((K:Int)+1==(s.length:Int))=true:=by rw [beq_iff_eq];omega
             go_wp2_with fail;go_meet;exact ⟨by rw [decide_eq_true hkl];rfl,rfl⟩
            ·have hkb:((K:Int)+1==(s.length:Int))=false:=by rw [beq_eq_false_iff_ne];omega
             go_wp2_with fail;go_meet;exact ⟨by rw [decide_eq_false hkl];rfl,rfl⟩
          ·go_wp2_with fail;rw [HCUT.out];((with_reducible refine HSEG.out.mono ?_));rintro e w7 ⟨rfl,rfl⟩;cases b
           ·go_wp2_with fail;go_meet;exact ⟨rfl,rfl⟩
           ·by_cases hkl:K+1=s.length
            ·have hkb:((K:Int)+1==(s.length:Int))=true:=by rw [beq_iff_eq];omega
             go_wp2_with fail;go_meet;exact ⟨by rw [decide_eq_true hkl];rfl,rfl⟩
            ·have hkb:((K:Int)+1==(s.length:Int))=false:=by rw [beq_eq_false_iff_ne];omega
             go_wp2_with fail;go_meet;exact ⟨by rw [decide_eq_false hkl];rfl,rfl⟩
         case rest =>
          obtain ⟨rfl,rfl⟩:=hcut;obtain ⟨w7,rfl⟩:∃ x:World,x=w6:=⟨_,rfl⟩;cases hbad:(!b||decide (K+1=s.length))
          ·have hb1:b=true/\K+1≠s.length:=by simpa using hbad
           obtain ⟨rfl,hK1⟩:=hb1;clear hbad;have hx1:1<=x.length:=by
            by_cases h0:x.length<1
            ·have:=HB.out;rw [Qil x (.inl h0)] at this;cases this
            ·omega
           have HS2:Hid (Qwn s i (K+1) (dn++[x])):=Za (by
            refine ⟨?_,by simp;omega,by omega,by omega,?_⟩
            ·intro z hz;rcases List.mem_append.1 hz with hz|hz
             ·exact HJ1.out z hz
             ·rw [List.mem_singleton.1 hz];exact HB.out
            ·rcases HE3.out with ⟨h1,h2⟩|⟨t,h1,h2⟩
             ·refine .inr ⟨by rw [h1] at hlen;simp at hlen;omega,?_⟩;rw [HSP.out,h2]
             ·have hlt3:K+1<s.length:=by rw [h1] at hlen;simp at hlen;omega
              have hdr:s.drop K=46::t:=by rw [<- hK,HY.out,h1]
              refine .inl ⟨hlt3,?_,fun _=>?_⟩
              ·have:s.drop (K+1)=t:=by rw [<- List.drop_drop,hdr];rfl
               rw [HSPL.out,h2,this];simp
              ·rw [show K+1-1=K from rfl];have hlt4:K<s.length:=by omega
               rw [List.drop_eq_getElem_cons hlt4] at hdr;injection hdr with h5 _;rw [List.getElem?_eq_getElem hlt4,h5])
           have HCUT2:Hid (List.take (K-n) (List.drop n s)=x):=Za (by rw [hxl];exact HCUT.out);go_upto_region 16 with fail;obtain ⟨d0,d1,d2⟩:=Qa4 HQ.out.2.1;have hS0:∀ z,SameAt w7 ⟨w.heap.size+1,2,none⟩ z->z.cell? ⟨w.heap.size+1,2,none⟩=some (.slice a dn.length c):=fun z hz=>hz.trans d2;refine QaI (SameAt w7 ⟨w.heap.size+1,2,none⟩) 7 [.reads [0,1,2,3,4,5],.act 6,.act 7,.act 8,.act 9] (by kernel_rfl) (by kernel_rfl) (by kernel_rfl) (by kernel_rfl) (by kernel_rfl) (fun _ _ d _ _ h=>by cases d<;>exact h) rfl ?_;refine Qas ?_;simp only [Qaf,pQ1,pQ2,pQ3,pQ4,pQ5,pQ6]
           repeat (go_big_quiet_step (first|(intro hb;rw [hS0 _ hb];exact ⟨rfl,rfl⟩)))
           refine wpQuiet_nil ?_;rw [HCUT.out];have HZ:Hid (w.heap.size+2<=w7.heap.size):=Za HQ.out.lt;obtain ⟨k1,k2⟩:=Qwm w7.drew (.cells #[.string ⟨x.toArray⟩] 9);have HQ8:=Za ((HQ.out.below (Grows.self w7)).below k1);have HO8:=Za (QbY (QbY HO.out (Grows.self w7)) k1);have H1:=Za (StrsAt.one (x:=x) k2);have HZ8:Hid (w.heap.size+2<=(w7.drew.alloc (.cells #[.string ⟨x.toArray⟩] 9)).heap.size):=Za (Nat.le_trans HZ.out k1.size);clear k1 k2 HQ HO;refine Qai rfl ?_;simp only [Qaf,pQ1,pQ2,pQ3,pQ4,pQ5,pQ6];go_wp2_with fail;refine ⟨fun _=>?_,?_⟩
           ·exact (Qa4 HQ8.out.2.1).2.2.trans d2.symm
           refine Qai rfl ?_;simp only [Qaf,pQ1,pQ2,pQ3,pQ4,pQ5,pQ6];go_wp2_with (at_builtin;refine QhM rfl _ _ rfl (w.heap.size+2) _ dn rfl HO8.out (.slice (some ⟨w7.drew.heap.size,0,none⟩) 1 1) [x] rfl H1.out (by simp;omega) HZ8.out ?_;intro v9 w9 ho hg;obtain ⟨a9,c9,rfl⟩:=Qix ho;have HO9:=Za ho;have HQ9:=Za (HQ8.out.grown hg (fun g h=>Qap HO8.out h));clear ho hg HQ8 HO8 H1 HZ8);refine ⟨fun h=>absurd h (by decide),?_⟩;refine Qai rfl ?_;simp only [Qaf,pQ1,pQ2,pQ3,pQ4,pQ5,pQ6];go_wp2_with fail;refine ⟨fun h=>absurd h (by decide),?_⟩;clear hS0 d0 d1 d2;obtain ⟨d0,d1,d2⟩:=Qa4 HQ9.out.2.1;have g2:=Qay HQ9.out.2.1 2;have HQ10:=Za (HQ9.out.segs (.slice a9 (dn++[x]).length c9));have HO10:=Za (Qdx HO9.out ⟨w.heap.size+1,2,none⟩ (.slice a9 (dn++[x]).length c9) (by show w.heap.size+1<w.heap.size+2;omega));clear HO9;obtain ⟨D2,hD2⟩:∃ D,dn++[x]=D:=⟨_,rfl⟩;have hD2l:D2.length=dn.length+1:=by rw [<- hD2];simp
           rw [hD2] at HQ10 HO10 HS2;rw [hD2l] at HQ10 HO10;refine Qai rfl ?_;simp only [Qaf,pQ1,pQ2,pQ3,pQ4,pQ5,pQ6];go_wp2_with fail;refine ⟨fun h=>absurd h (by decide),Qbb ?_⟩;clear d0 d1 d2 g2 HQ9;generalize (w9.setCell ⟨w.heap.size+1,2,none⟩ (.slice a9 (dn.length+1) c9))=w10 at *;go_wp2_with fail;go_roundw
           case rel=>exact ⟨K+1,D2,a9,c9,by go_num,HS2,by rw [hD2l];exact HQ10,by rw [hD2l];exact HO10⟩
           case measure=>simp [intOf];omega
          ·have HBAD:Hid (QaY s=false):=Za (by
            unfold QaY;rw [HSP.out];have hbb:b=false\/K+1=s.length:=by simpa using hbad
            rcases HE3.out with ⟨h1,h2⟩|⟨t,h1,h2⟩
            ·rw [h2];rcases hbb with rfl|hK1
             ·exact QhY (x:=x) (by simp) HB.out
             ·rw [h1] at hlen;simp at hlen;omega
            ·rw [h2];rcases hbb with rfl|hK1
             ·exact QhY (x:=x) (by simp) HB.out
             ·obtain rfl:t=[]:=List.eq_nil_of_length_eq_zero (by rw [h1] at hlen;simp at hlen;omega);exact QhY (x:=[]) (by simp [QaM]) rfl)
           clear hbad;obtain ⟨e0,e1,e2⟩:=Qa4 HQ.out.1;have i0:=Qay HQ.out.1 0;have i1:=Qay HQ.out.1 1;have i2:=Qay HQ.out.1 2;go_wp2_with fail;exact bodyPost_ret (QhX _ _ _ _ _ _ rfl (QjT HQ.out.1 _ _ _)) rfl (Qea HBAD.out (QjU HQ.out.2.2 Zc _ _ _))
       ·obtain ⟨j1,j2,j3,j4,j5⟩:=HS.out;have hsg:QaF s=dn:=by
         rcases j5 with ⟨h,_⟩|⟨_,h⟩
         ·exact absurd h hlt
         ·exact h
        have HX:Hid (∀ x∈dn,x.length<=9223372036854775000):=Za (fun x hx=>Nat.le_trans (Qk0 (j1 x hx)) (by omega));have HSG:=Za hsg;have HOK:Hid (QaY s=QaD root k dn):=Za (by unfold QaY;rw [hsg,hroot.out,hN.out]);have HV:=Za (Qhy (.agg #[.bool root,.int .i64 k,.slice a dn.length c]) root k dn w5 (PathV.mk (StrsAt.of_own HO.out (by omega))) HX.out);have HZ:Hid (w.heap.size+2<=w5.heap.size):=Za HQ.out.lt;clear j1 j3 j5 hsg;obtain ⟨d0,d1,d2⟩:=Qa4 HQ.out.2.1;cases hv:QaD root k dn
        all_goals
         rw [hv] at HOK;rw [hv] at HV;clear hv;go_wp2_with fail;((with_reducible refine HV.out.mono ?_));rintro e w6 ⟨rfl,hb⟩;have HQ6:=Za (HQ.out.below hb);have HO6:=Za (QbY HO.out hb);clear hb HV HQ HO d0 d1 d2;obtain ⟨d0,d1,d2⟩:=Qa4 HQ6.out.2.1;obtain ⟨e0,e1,e2⟩:=Qa4 HQ6.out.1;have i0:=Qay HQ6.out.1 0;have i1:=Qay HQ6.out.1 1;have i2:=Qay HQ6.out.1 2;go_wp2_with fail
        ·exact bodyPost_ret (QhX _ _ _ _ _ _ rfl (QjT HQ6.out.1 _ _ _)) rfl (Qea HOK.out (QjU HQ6.out.2.2 Zc _ _ _))
        ·refine bodyPost_ret (QhX _ _ _ _ _ _ rfl (QjT HQ6.out.1 _ _ _)) rfl ?_;have:=QgF (v:=.slice a dn.length c) HOK.out (by rw [HSG.out];exact Qgz (QnK HO6.out w.heap.size (.bool root) (.int .i64 k) (.slice a dn.length c) (by omega)) (by omega)) (QjU HQ6.out.2.2 Zc (.bool root) (.int .i64 k) (.slice a dn.length c));rw [hroot.out,hN.out] at this;exact this
     ·obtain rfl:root=false:=by cases root with
       | false=>rfl
       | true=>cases hb
      obtain ⟨t,ht⟩:=Qin (s.drop i) (by simpa using hb);have hlt:i<s.length:=by
       have:=congrArg List.length ht;simp at this;omega
      have HJ3:Hid (CarJ false N R (k+1) (s.drop (i+1))):=Za (by
       have h1:=HJ.out;rw [ht] at h1;have h2:=h1.step;have h3:s.drop (i+1)=t:=by
        have:s.drop (i+1)=(s.drop i).drop 1:=by rw [List.drop_drop]
        rw [this,ht];rfl
       rw [h3];exact h2)
      have HQ3:=Za (HQ.out.up ((k:Int)+1));clear hb HJ HQ ht;go_wp2_with fail;go_roundw
      case rel=>exact ⟨k+1,by rw [<- hi];go_num,by omega,by rw [<- Nat.add_assoc,hi];exact HJ3,Za (by have:=HQ3.out;exact_mod_cast this)⟩
      case measure=>simp [intOf];omega
end
section
open Go.RowKit
attribute [local go_sem] ByteArray.mk_append_mk Qac Qad Qae
theorem QuS (y:List UInt8):Lib.strCells ⟨y.toArray⟩=byV y:=by unfold Lib.strCells byV;simp
theorem Qne (a b:List UInt8):byV (a++b)=byV a++byV b:=by unfold byV;simp
theorem Qb8 {w:World} {ops:Array Oper} {rest:List Oper} {o:Oper} {a:Act} {Q:Exit->Act->World->Prop} (hgd:o.guard=none) (s x:Operand)
  (ho:o.op = .call { callee:=.builtin .append,args:=#[s,x],argTypes:=#[48,9] })
  (B:Nat) (v:Value) (l:List UInt8) (hs:a.eval s=v) (hown:Bytes w B v l) (y:List UInt8) (hx:a.eval x = .string ⟨y.toArray⟩) (hlen:l.length+y.length<=1000000000) (hB:B<=w.heap.size)
  (h:∀ v' w',Bytes w' B v' (l++y)->w.grownBy w' v.ownBlock->wpList Tryz.prog ops Q rest (a.put o.dst v') w'):wpList Tryz.prog ops Q (o::rest) a w:=by
 obtain ⟨i0,hi,hz0,hz1,hz2⟩:=info_parts QmU;have hsz:(ByteArray.mk y.toArray).size=y.length:=by simp [ByteArray.size]
 refine Lib.wpList_append_own_string _ hgd s x _ _ ho B 5 i0 Tryz.underlying48 Tryz.underlying9 hi hz0 hz1 hz2 v l.length _ hs hown ⟨y.toArray⟩ hx (by rw [hsz];unfold maxLen;omega) (by rw [hsz];omega) hB ?_;intro v' w' h1 h2 _;refine h v' w' ?_ h2;unfold Bytes;rw [hsz,QuS] at h1;rw [List.length_append,Qne];exact h1
theorem QhZ {w:World} {ops:Array Oper} {rest:List Oper} {o:Oper} {a:Act} {Q:Exit->Act->World->Prop} (hgd:o.guard=none) (s x:Operand)
  (ho:o.op = .call { callee:=.builtin .append,args:=#[s,x],argTypes:=#[48,48] })
  (B:Nat) (v:Value) (l:List UInt8) (hs:a.eval s=v) (hown:Bytes w B v l) (B2:Nat) (u:Value) (y:List UInt8) (hx:a.eval x=u) (hu:Bytes w B2 u y) (hlen:l.length+y.length<=1000000000) (hB:B<=w.heap.size)
  (h:∀ v' w',Bytes w' B v' (l++y)->w.grownBy w' v.ownBlock->wpList Tryz.prog ops Q rest (a.put o.dst v') w'):wpList Tryz.prog ops Q (o::rest) a w:=by
 obtain ⟨i0,hi,hz0,hz1,hz2⟩:=info_parts QmU;rcases hu.2 with ⟨hv,h0⟩|⟨g,cap,cur,hv,_⟩
 ·have hy:y=[]:=List.eq_nil_of_length_eq_zero h0;subst hy;refine wpList_append_own_none hgd s x _ ho B 5 i0 1 Tryz.underlying48 hi v l.length _ hs hown (hx.trans hv) ?_;refine h v w (by rw [List.append_nil];exact hown) ⟨rfl,rfl,rfl,Nat.le_refl _,fun _ _ _=>rfl⟩
 ·refine wpList_append_own _ hgd s x _ ho B 5 i0 (.int .u8 0) 1 1 Tryz.underlying48 hi hz0 hz1 hz2 rfl (by decide) v l.length _ hs hown ⟨g,0,none⟩ y.length cap (byV y) (hx.trans hv) (by rw [QjZ];omega) ?_ ?_ (by unfold maxLen;omega) (by omega) hB ?_
  ·intro j z hj;have hlt:j<y.length:=by
    have:=(List.getElem?_eq_some_iff.1 hj).1
    rwa [QjZ] at this
   have ho':w.ownsRow B2 5 1 u y.length (byV y):=hu;rw [hv] at ho';have h1:=ho'.cellAt j (by omega);rw [hj] at h1;by_cases h0:j=0
   ·subst h0;simpa [Addr.add] using h1
   ·simpa [Addr.add,h0] using h1
  ·intro z hz;unfold byV at hz;obtain ⟨b,_,rfl⟩:=List.mem_map.1 hz;rfl
  ·intro v' w' h1 h2 _;refine h v' w' ?_ h2;unfold Bytes;rw [List.length_append,Qne];exact h1
theorem Qbc {w:World} {ops:Array Oper} {rest:List Oper} {o:Oper} {a:Act} {Q:Exit->Act->World->Prop} (hgd:o.guard=none) (s x:Operand)
  (ho:o.op = .call { callee:=.builtin .append,args:=#[s,x],argTypes:=#[48,48] })
  (B:Nat) (v:Value) (l:List UInt8) (hs:a.eval s=v) (hown:Bytes w B v l) (y:List UInt8) (g n c:Nat) (hn:y.length=n)
  (hx:a.eval x = .slice (some ⟨g,0,none⟩) n c) (hb:w.heap[g]?=some (.cells (byV y).toArray 5 (0,0))) (hlen:l.length+y.length<=1000000000) (hB:B<=w.heap.size)
  (h:∀ v' w',Bytes w' B v' (l++y)->w.grownBy w' v.ownBlock->wpList Tryz.prog ops Q rest (a.put o.dst v') w'):wpList Tryz.prog ops Q (o::rest) a w:=by
 subst hn;obtain ⟨i0,hi,hz0,hz1,hz2⟩:=info_parts QmU;refine wpList_append_own _ hgd s x _ ho B 5 i0 (.int .u8 0) 1 1 Tryz.underlying48 hi hz0 hz1 hz2 rfl (by decide) v l.length _ hs hown ⟨g,0,none⟩ y.length c (byV y) hx (by rw [QjZ];omega) ?_ ?_ (by unfold maxLen;omega) (by omega) hB ?_
 ·intro j z hj;have:=cell_of_row w g j _ 5 (0,0) hb;by_cases h0:j=0
  ·subst h0;simpa [Addr.add,hj] using this
  ·simpa [Addr.add,h0,hj] using this
 ·intro z hz;unfold byV at hz;obtain ⟨b,_,rfl⟩:=List.mem_map.1 hz;rfl
 ·intro v' w' h1 h2 _;refine h v' w' ?_ h2;unfold Bytes;rw [List.length_append,Qne];exact h1
structure EnC (w:World) (B:Nat) (v:Value) (p:List Nd) (m:Int):Prop where
 sl:NSl w v p
 lo:∀ g off n c,v = .slice (some ⟨g,off,none⟩) n c->p≠[]->g<B
 mx:w.cell? ⟨0,0,none⟩=some (.int .i64 m)
 ml:0<B
 sz:B<=w.heap.size
theorem EnC.below {w w':World} {B:Nat} {v:Value} {p:List Nd} {m:Int} (h:EnC w B v p m) (hb:Below B w w'):EnC w' B v p m:=by
 refine ⟨?_,h.lo,(hb.cell (p:=⟨0,0,none⟩) h.ml).trans h.mx,h.ml,Nat.le_trans h.sz hb.size⟩;obtain ⟨⟨a,cap,hv,hc⟩,hs⟩:=h.sl;refine ⟨⟨a,cap,hv,fun hn=>?_⟩,hs⟩;obtain ⟨b,off,ha,hk⟩:=hc hn;exact ⟨b,off,ha,fun i hi=>(hk i hi).belowB hb (h.lo b off _ _ (by rw [hv,ha]) hn)⟩
theorem EnC.base {w:World} {B B':Nat} {v:Value} {p:List Nd} {m:Int} (h:EnC w B v p m) (hB:B<=B') (hs:B'<=w.heap.size):EnC w B' v p m :=
 ⟨h.sl,fun g off n c hv hn=>Nat.lt_of_lt_of_le (h.lo g off n c hv hn) hB,h.mx,Nat.lt_of_lt_of_le h.ml hB,hs⟩
theorem EnC.start {w:World} {v:Value} {p:List Nd} {m:Int} (h:NSl w v p) (hm:w.cell? ⟨0,0,none⟩=some (.int .i64 m)):EnC w w.heap.size v p m:=by
 refine ⟨h,fun g off n c hv hn=>?_,hm,World.block_lt_of_cell? w _ hm,Nat.le_refl _⟩;obtain ⟨⟨a,cap,hv',hc⟩,_⟩:=h;obtain ⟨b,off',ha,hk⟩:=hc hn;rw [hv',ha] at hv;injection hv with h1 _ _;injection h1 with h1;injection h1 with h1 _ _;rw [<- h1];exact World.block_lt_of_cell? w _ (hk 0 (List.length_pos_iff.2 hn)).1
def KeepNd (w w':World):Prop:=∀ (k:Nat) (a b:Int) (c:List UInt8) (d:Int),w.heap[k]?=some (Qaj a b c d)->w'.heap[k]?=some (Qaj a b c d)
theorem KeepNd.below {w w':World} (h:Below w.heap.size w w'):KeepNd w w':=fun k a b c d hk=>Qab hk h
theorem KeepNd.grown {w w':World} {B:Nat} {v:Value} {l:List UInt8} (ho:Bytes w B v l) (h:w.grownBy w' v.ownBlock):KeepNd w w':=fun k a b c d hk=>by
 refine (h.block k (lt_of_block hk) (fun e=>?_)).trans hk;obtain ⟨cur,hc⟩:=QcB ho e.symm;rw [hk] at hc;injection hc with hc;injection hc with _ h2 _;exact absurd h2 (by decide)
def EnB (B:Nat) (w w':World):Prop:=Below B w w'/\KeepNd w w'
theorem EnB.refl (B:Nat) (w:World):EnB B w w:=⟨Zb,fun _ _ _ _ _ h=>h⟩
theorem EnB.trans {B:Nat} {a b c:World} (h:EnB B a b) (k:EnB B b c):EnB B a c:=⟨h.1.trans k.1,fun i x y z u hk=>k.2 i x y z u (h.2 i x y z u hk)⟩
theorem EnB.then {B:Nat} {a b c:World} (h:EnB B a b) (hB:B<=a.heap.size) (k:Below b.heap.size b c):EnB B a c:=h.trans ⟨k.mono (Nat.le_trans hB h.1.size),.below k⟩
theorem EnB.kept {B B2:Nat} {a b c:World} {v:Value} {l:List UInt8} (ho:Bytes b B2 v l) (h:EnB B a b) (hg:b.grownBy c v.ownBlock) (hB:B<=a.heap.size) (hB2:B<=B2):EnB B a c :=
 ⟨ho.kept h.1 hg (Nat.le_trans hB h.1.size) hB2,fun i x y z u hk=>KeepNd.grown ho hg i x y z u (h.2 i x y z u hk)⟩
def QjW (w:World) (B:Nat) (l:List UInt8) (j:Nat) (e:Ending) (w':World):Prop:=∃ cv',e = .returned (.tuple #[cv',.int .i64 j])/\Bytes w' B cv' l/\EnB B w w'
def EnT (v : Value) (p : List Nd) (m : Int) (d : Nat) : Prop := ∀ (b : Bool) (k : UInt8) (i j : Nat) (cv : Value) (l : List UInt8) (B : Nat) (w : World), Qan p d b k i = some j → Bytes w B cv l → EnC w B v p m → l.length + (Qak p d i).1.length ≤ 100000000 →
    Calls Tryz.prog 42 #[cv,v,.int .i64 i] w (QjW w B (l++(Qak p d i).1) j)
def EnK (v : Value) (p : List Nd) (m : Int) (d : Nat) : Prop := ∀ (M i j : Nat) (cv : Value) (l : List UInt8) (B : Nat) (w : World), M ≤ 1000000 → chV p d M i j → Bytes w B cv l → EnC w B v p m → l.length + (QaB (Qak p d) M i).1.length ≤ 100000000 →
    Calls Tryz.prog 85 #[cv,v,.int .i64 i,.int .i64 M] w (QjW w B (l++(QaB (Qak p d) M i).1) j)
theorem QlN (v:Value) (p:List Nd) (m:Int) (d:Nat) (ih:EnT v p m d):EnK v p m d:=by
 intro M i j cv l B w hM hc hbt hen hlen;have IH:=Za ih;unfold EnT at IH;have HB0:=Za hbt;have HE0:=Za hen;have HC0:=Za hc;obtain ⟨T,hT⟩:∃ T,l++(QaB (Qak p d) M i).1=T:=⟨_,rfl⟩;have HT0:=Za hT;have HTL:Hid (T.length<=100000000):=Za (by rw [<- hT,List.length_append];exact hlen);rw [hT];obtain ⟨ca,cc,rfl⟩:=hbt.form;obtain ⟨a,cap,hv,_⟩:=hen.sl.1;obtain ⟨L,hL⟩:∃ L,p.length=L:=⟨_,rfl⟩;rw [hL] at hv;subst hv;have HBW0:Hid (EnB B w w):=Za (EnB.refl _ _);clear hbt hen hc hT hlen ih hL;obtain ⟨ll,hll⟩:∃ n,l.length=n:=⟨_,rfl⟩;rw [hll] at HB0 |-;clear hll;go_enter Tryz.func85,Tryz.ntmps85;go_wp2_with fail;go_loopw [0,2,11] (fun x y z wr=>∃ (u:Value) (q ii:Nat) (st:List UInt8),u=x/\y = .int .i64 ii/\z = .int .i64 q/\q<=M/\Hid (chV p d (M-q) ii j)/\Hid (Bytes wr B u st)/\Hid (st++(QaB (Qak p d) (M-q) ii).1=T)/\Hid (EnB B w wr)) (fun _ _ z _=>M-(intOf z).toNat)
 case atStart=>exact ⟨_,0,i,l,rfl,rfl,rfl,by omega,HC0,HB0,HT0,HBW0⟩
 case round =>
  obtain ⟨u,q,ii,st,rfl,rfl,rfl,hq,HC,HB,HT,HBW⟩:=hrel;obtain ⟨w3,rfl⟩:∃ y:World,y=wr:=⟨_,rfl⟩;clear HC0 HB0 HT0 HBW0;by_cases hlt:q<M
  ·have hlt':(q:Int)<(M:Int):=by omega
   obtain ⟨m',hMq⟩:∃ m',M-q=m'+1:=⟨M-q-1,by omega⟩;have hx2:=HC.out;rw [hMq] at hx2;obtain ⟨b,k,j1,hv1,hx2⟩:=hx2;have HT1:Hid ((st++(Qak p d ii).1)++(QaB (Qak p d) (M-(q+1)) j1).1=T):=Za (by
    rw [<- HT.out,hMq,QaB,show M-(q+1)=m' by omega,Qa7 p d b k ii j1 hv1,List.append_assoc])
   have HC1:Hid (chV p d (M-(q+1)) j1 j):=Za (by rw [show M-(q+1)=m' by omega];exact hx2);have HCL:=Za (IH.out b k ii j1 u st B w3 hv1 HB.out (HE0.out.below HBW.out.1) (by
    have h1:=congrArg List.length HT1.out;have h2:=HTL.out;rw [List.length_append,List.length_append] at h1;omega))
   clear hv1 hx2 HC HB HT;go_wp2_with fail;((with_reducible refine HCL.out.mono ?_));rintro e w4 ⟨cv',rfl,hb4,hbw4⟩;have HB4:=Za hb4;have HBW4:=Za (HBW.out.trans hbw4);clear hb4 hbw4 HCL HBW;go_wp2_with fail;go_roundw
   case rel=>exact ⟨_,q+1,j1,_,rfl,rfl,by go_num,by omega,HC1,HB4,HT1,HBW4⟩
   case measure=>simp [intOf];omega
  ·have hlt':¬ (q:Int)<(M:Int):=by omega
   have hqM:q=M:=by omega
   have hfin:st=T/\ii=j:=by
    have h1:=HT.out;have h2:=HC.out;rw [hqM,Nat.sub_self] at h1 h2;rw [QaB,List.append_nil] at h1;exact ⟨h1,h2⟩
   obtain ⟨rfl,rfl⟩:=hfin;go_wp2_with fail;go_ret2;exact ⟨_,rfl,HB.out,HBW.out⟩
theorem QgN (s:List UInt8) (m:Int) (cv:Value) (l:List UInt8) (B:Nat) (w:World) (hs:QaY s=true) (hs2:s.length<=4000000000) (hbt:Bytes w B cv l) (hm:w.cell? ⟨0,0,none⟩=some (.int .i64 m)) (hB:B<=w.heap.size) (hlen:l.length<=900000000) :
  Calls Tryz.prog 84 #[cv,.string ⟨s.toArray⟩] w fun e w'=>∃ cv',e = .returned cv'/\Bytes w' B cv' (l++Qbu s)/\EnB B w w':=by
 have HP:=Za (Ql4 s m w hm hs2);unfold Qct Qjt at HP;simp only [hs,if_true,Bool.true_and] at HP;have HB:=Za hbt;have hpl:=Qhd hs;have hv:QaD (QaO s) (Qbm s) (QaF s)=true:=hs;have hap:Qg8 (QaO s) (Qbm s) (QaF s)=Qbu s:=by
  unfold Qg8 Qbu;rw [if_pos hv,Int.toNat_natCast]
 have HSG:Hid (∀ x∈QaF s,x.length<=9223372036854775000):=Za (fun x hx=>by
  have:=(QbG (QbM hv x hx)).2;omega)
 have hpre:=(Qfn hs).2;obtain ⟨y,hy⟩:∃ y,Qbu s=y:=⟨_,rfl⟩;rw [hy] at hap hpl |-;obtain ⟨R,hR⟩:∃ R,QaO s=R:=⟨_,rfl⟩;obtain ⟨U,hU⟩:∃ U:Int,(Qbm s:Int)=U:=⟨_,rfl⟩;obtain ⟨SG,hSG⟩:∃ SG,QaF s=SG:=⟨_,rfl⟩;rw [hR,hU,hSG] at HP hap;rw [hSG] at hpre HSG;have HAX:Hid (∀ w P,PathV w P R U SG->Calls Tryz.prog 130 #[.string ⟨#[]⟩,P] w fun e w'=>e = .returned (.string ⟨y.toArray⟩)/\Below w.heap.size w w'):=Za (fun w P h=>by
  have h1:=Qrr [] P R U SG w h HSG.out (by simp);rw [hap] at h1;exact h1)
 obtain ⟨ca,cc,rfl⟩:=hbt.form;obtain ⟨ll,hll⟩:∃ n,l.length=n:=⟨_,rfl⟩;have HLL:=Za hll;rw [hll] at HB hlen |-;have HYL:=Za hpl;clear hbt hs hll hv hap hy hR hU hSG hm HSG hpl;go_enter Tryz.func84,Tryz.ntmps84;go_wp2_with fail;((with_reducible refine HP.out.mono ?_));rintro e w1 ⟨v1,rfl,ho1,hb1⟩;have HB1:=Za (HB.out.below hb1);have HW1:Hid (EnB B w w1):=Za ((EnB.refl _ _).then hB hb1);have HS1:=Za (StrsAt.of_own ho1 (by omega));obtain ⟨a1,c1,rfl⟩:=Qix ho1;obtain ⟨n1,hn1⟩:∃ n,SG.length=n:=⟨_,rfl⟩;rw [hn1] at HS1 |-;have hal:∀ o,Below w1.heap.size w1 (w1.alloc o):=fun o=>Zb.alloc Zc o;have HX:=Za (BoxAt.start (root:=R) (up:=U) HS1.out);have HB2:=Za (HB1.out.below (hal (.cells #[.bool R,.int .i64 U,.slice a1 n1 c1] 128)));have HW2:=Za (HW1.out.then hB (hal (.cells #[.bool R,.int .i64 U,.slice a1 n1 c1] 128)));clear ho1 hb1 hal HB1 HW1 HS1 HP hn1 HB;go_upto_region 2 with fail;generalize w1.alloc (.cells #[.bool R,.int .i64 U,.slice a1 n1 c1] 128)=w2 at HX HB2 HW2 |-;have HC:=Za (HAX.out w2 _ HX.out.pathV);obtain ⟨p0,p1,p2⟩:=HX.out.cells;clear HX HAX;go_wp2_with fail;((with_reducible refine HC.out.mono ?_));rintro e w3 ⟨rfl,hb3⟩;have HB3:=Za (HB2.out.below hb3);have HW3:=Za (HW2.out.then hB hb3);clear hb3 HB2 HW2 p0 p1 p2 HC;go_wp2_with (at_builtin;refine Qb8 rfl _ _ rfl B _ l rfl HB3.out y rfl (by have:=HYL.out;have:=HLL.out;omega) (Nat.le_trans hB HW3.out.1.size) ?_;intro v4 w4 hb4 hg4;have HB4:=Za hb4;have HW4:=Za (EnB.kept HB3.out HW3.out hg4 hB Zc);clear hb4 hg4);go_ret;exact ⟨_,rfl,HB4.out,HW4.out⟩
end
section
open Go.RowKit
attribute [local go_sem] ByteArray.mk_append_mk Qac Qad Qae Qc2 Qdd
def EnR (v : Value) (p : List Nd) (d : Nat) : Prop := ∀ (b : Bool) (k : UInt8) (i j : Nat) (w : World), Qan p d b k i = some j → NSl w v p →
    Calls Tryz.prog 43 #[v,.int .i64 i] w fun e w'=>e = .returned (.tuple #[.string ⟨(Qak p d i).1.toArray⟩,.int .i64 j])/\Below w.heap.size w w'
theorem Qfr (op c:Int) (b:Bool) (h:((Qbd op:Nat):Int)=c) (k:QdO op=b) (w:World):Calls Tryz.prog 88 #[.int .i64 op] w fun e w'=>e = .returned (.tuple #[.int .u8 c,.bool b])/\w=w':=by
 have:=QrD op w;rw [h,k] at this;exact this
theorem QjE (s:List UInt8) (hs:QaY s=true) (w:World) (R:Bool) (U:Int) (SG:List (List UInt8)) (hR:QaO s=R) (hU:(Qbm s:Int)=U) (hSG:QaF s=SG) (P:Value) (hP:PathV w P R U SG) :
  Calls Tryz.prog 92 #[P] w fun e w'=>e = .returned (.string ⟨(Qbu s).toArray⟩)/\Below w.heap.size w w':=by
 subst hR hU hSG;have hv:QaD (QaO s) (Qbm s) (QaF s)=true:=hs;have hpre:=Qfn hs;refine (Qrq P _ _ _ w hP hpre.1 (by omega) (fun x hx=>QbG (QbM hv x hx))).mono ?_;rintro e w' ⟨y,hy,_,he,hb⟩;refine ⟨?_,hb.out⟩;rw [he,hy.out];rfl
set_option maxRecDepth 100000 in
theorem QuT (v:Value) (p:List Nd) (i:Nat) (w:World) (nn np:Int) (ns:List UInt8) (hn:p[i]?=some ⟨1,nn,ns,np⟩) (hv:NSl w v p) (hpl:p.length<=1000000) (h0:0<=nn) :
  Calls Tryz.prog 43 #[v,.int .i64 i] w fun e w'=>e = .returned (.tuple #[.string ⟨(QaZ nn.toNat).toArray⟩,.int .i64 (i+1:Nat)])/\Below w.heap.size w w':=by
 have HV0:=Za hv;obtain ⟨hip,hpe⟩:=List.getElem?_eq_some_iff.1 hn;obtain ⟨a,cap,rfl,hcc⟩:=hv.1;obtain ⟨g,off,rfl,hk⟩:=hcc (by rintro rfl;simp at hip);obtain ⟨d0,d1,d2,d3⟩:=hk i hip;rw [hpe] at d0 d1 d2 d3;simp only at d0 d1 d2 d3;have hi2:(i:Int)<(p.length:Int):=by omega
 obtain ⟨L,hL⟩:∃ L,p.length=L:=⟨_,rfl⟩;have HL:=Za hL;rw [hL] at hi2 HV0 hpl |-;have hi3:(i:Int)<1000000:=by omega
 have HB0:Hid (Below w.heap.size w (w.alloc (Qaj 1 nn ns np))):=Za (Zb.alloc Zc _);have HE0:=Za (heap_alloc_new w (Qaj 1 nn ns np));have HV1:=Za (HV0.out.below HB0.out);obtain ⟨P,hP⟩:∃ P,w.heap.size=P:=⟨_,rfl⟩;have HPE:=Za hP;clear hcc hk hv hn hpe hip HV0 hL ;go_enter Tryz.func43,Tryz.ntmps43;go_upto_region 3 with fail;generalize w.alloc (Qaj 1 nn ns np)=W at HB0 HE0 HV1 |-;(try simp only [hP]);rw [hP] at HB0 HE0;clear hP d0 d1 d2 d3 hi2;obtain ⟨e0,e1,e2,e3⟩:=Qaa HE0.out;have HCO:=Za (fun w=>Qfr 1 0 false rfl rfl w);go_wp2_with fail;((with_reducible refine (HCO.out _).mono ?_));rintro e w1 ⟨rfl,rfl⟩;clear HCO;have HC:=Za (Qpq nn W h0);go_wp2_with fail;((with_reducible refine HC.out.mono ?_));rintro e w2 ⟨rfl,hb2⟩;have HB2:=Za (Qah HB0.out (by rw [<- HPE.out];exact Nat.le_refl _) hb2);clear hb2 HC;go_wp2_with fail;go_ret2;exact ⟨by first|rfl|(simp;done),by rw [HPE.out];exact HB2.out⟩
set_option maxRecDepth 100000 in
theorem QuU (v:Value) (p:List Nd) (i:Nat) (w:World) (nn np:Int) (ns:List UInt8) (hn:p[i]?=some ⟨2,nn,ns,np⟩) (hv:NSl w v p) (hpl:p.length<=1000000) (h0:ns.length<=255) :
  Calls Tryz.prog 43 #[v,.int .i64 i] w fun e w'=>e = .returned (.tuple #[.string ⟨(Qco ns).toArray⟩,.int .i64 (i+1:Nat)])/\Below w.heap.size w w':=by
 have HV0:=Za hv;obtain ⟨hip,hpe⟩:=List.getElem?_eq_some_iff.1 hn;obtain ⟨a,cap,rfl,hcc⟩:=hv.1;obtain ⟨g,off,rfl,hk⟩:=hcc (by rintro rfl;simp at hip);obtain ⟨d0,d1,d2,d3⟩:=hk i hip;rw [hpe] at d0 d1 d2 d3;simp only at d0 d1 d2 d3;have hi2:(i:Int)<(p.length:Int):=by omega
 obtain ⟨L,hL⟩:∃ L,p.length=L:=⟨_,rfl⟩;have HL:=Za hL;rw [hL] at hi2 HV0 hpl |-;have hi3:(i:Int)<1000000:=by omega
 have HB0:Hid (Below w.heap.size w (w.alloc (Qaj 2 nn ns np))):=Za (Zb.alloc Zc _);have HE0:=Za (heap_alloc_new w (Qaj 2 nn ns np));have HV1:=Za (HV0.out.below HB0.out);obtain ⟨P,hP⟩:∃ P,w.heap.size=P:=⟨_,rfl⟩;have HPE:=Za hP;clear hcc hk hv hn hpe hip HV0 hL ;go_enter Tryz.func43,Tryz.ntmps43;go_upto_region 3 with fail;generalize w.alloc (Qaj 2 nn ns np)=W at HB0 HE0 HV1 |-;(try simp only [hP]);rw [hP] at HB0 HE0;clear hP d0 d1 d2 d3 hi2;obtain ⟨e0,e1,e2,e3⟩:=Qaa HE0.out;have HCO:=Za (fun w=>Qfr 2 0 false rfl rfl w);go_wp2_with fail;((with_reducible refine (HCO.out _).mono ?_));rintro e w1 ⟨rfl,rfl⟩;clear HCO;have HC:=Za (QlL ns W h0);go_wp2_with fail;((with_reducible refine HC.out.mono ?_));rintro e w2 ⟨rfl,hb2⟩;have HB2:=Za (Qah HB0.out (by rw [<- HPE.out];exact Nat.le_refl _) hb2);clear hb2 HC;go_wp2_with fail;go_ret2;exact ⟨by first|rfl|(simp;done),by rw [HPE.out];exact HB2.out⟩
set_option maxRecDepth 100000 in
theorem QuV (v:Value) (p:List Nd) (i:Nat) (w:World) (nn np:Int) (ns:List UInt8) (hn:p[i]?=some ⟨6,nn,ns,np⟩) (hv:NSl w v p) (hpl:p.length<=1000000) (h0:0<=nn) (h1:nn<8) :
  Calls Tryz.prog 43 #[v,.int .i64 i] w fun e w'=>e = .returned (.tuple #[.string ⟨[UInt8.ofNat (96+nn.toNat)].toArray⟩,.int .i64 (i+1:Nat)])/\Below w.heap.size w w':=by
 have hw1:IntKind.u8.wrap nn=nn:=by rw [IntKind.wrap_u8];omega
 have hw2:IntKind.u8.wrap (96+nn)=96+nn:=by rw [IntKind.wrap_u8];omega
 have HTN:Hid ((96+nn).toNat=96+nn.toNat):=Za (by omega);have HV0:=Za hv;obtain ⟨hip,hpe⟩:=List.getElem?_eq_some_iff.1 hn;obtain ⟨a,cap,rfl,hcc⟩:=hv.1;obtain ⟨g,off,rfl,hk⟩:=hcc (by rintro rfl;simp at hip);obtain ⟨d0,d1,d2,d3⟩:=hk i hip;rw [hpe] at d0 d1 d2 d3;simp only at d0 d1 d2 d3;have hi2:(i:Int)<(p.length:Int):=by omega
 obtain ⟨L,hL⟩:∃ L,p.length=L:=⟨_,rfl⟩;have HL:=Za hL;rw [hL] at hi2 HV0 hpl |-;have hi3:(i:Int)<1000000:=by omega
 have HB0:Hid (Below w.heap.size w (w.alloc (Qaj 6 nn ns np))):=Za (Zb.alloc Zc _);have HE0:=Za (heap_alloc_new w (Qaj 6 nn ns np));have HV1:=Za (HV0.out.below HB0.out);obtain ⟨P,hP⟩:∃ P,w.heap.size=P:=⟨_,rfl⟩;have HPE:=Za hP;clear hcc hk hv hn hpe hip HV0 hL ;go_enter Tryz.func43,Tryz.ntmps43;go_upto_region 3 with fail;generalize w.alloc (Qaj 6 nn ns np)=W at HB0 HE0 HV1 |-;(try simp only [hP]);rw [hP] at HB0 HE0;clear hP d0 d1 d2 d3 hi2;obtain ⟨e0,e1,e2,e3⟩:=Qaa HE0.out;have HCO:=Za (fun w=>Qfr 6 96 true rfl rfl w);go_wp2_with fail;((with_reducible refine (HCO.out _).mono ?_));rintro e w1 ⟨rfl,rfl⟩;clear HCO;have HBA:Hid (∀ o,Below P w (W.alloc o)):=Za (fun o=>Qah HB0.out (by rw [<- HPE.out];exact Nat.le_refl _) (Zb.alloc Zc o));go_wp2_with fail;go_ret2;rw [HPE.out];exact ⟨by first|rfl|(rw [HTN.out];done)|(simp [HTN.out];done),HBA.out _⟩
set_option maxRecDepth 100000 in
theorem QuW (v:Value) (p:List Nd) (i:Nat) (w:World) (nn np:Int) (ns:List UInt8) (hn:p[i]?=some ⟨7,nn,ns,np⟩) (hv:NSl w v p) (hpl:p.length<=1000000) (h0:0<=nn) (h1:nn<7) :
  Calls Tryz.prog 43 #[v,.int .i64 i] w fun e w'=>e = .returned (.tuple #[.string ⟨[UInt8.ofNat (104+nn.toNat)].toArray⟩,.int .i64 (i+1:Nat)])/\Below w.heap.size w w':=by
 have hw1:IntKind.u8.wrap nn=nn:=by rw [IntKind.wrap_u8];omega
 have hw2:IntKind.u8.wrap (104+nn)=104+nn:=by rw [IntKind.wrap_u8];omega
 have HTN:Hid ((104+nn).toNat=104+nn.toNat):=Za (by omega);have HV0:=Za hv;obtain ⟨hip,hpe⟩:=List.getElem?_eq_some_iff.1 hn;obtain ⟨a,cap,rfl,hcc⟩:=hv.1;obtain ⟨g,off,rfl,hk⟩:=hcc (by rintro rfl;simp at hip);obtain ⟨d0,d1,d2,d3⟩:=hk i hip;rw [hpe] at d0 d1 d2 d3;simp only at d0 d1 d2 d3;have hi2:(i:Int)<(p.length:Int):=by omega
 obtain ⟨L,hL⟩:∃ L,p.length=L:=⟨_,rfl⟩;have HL:=Za hL;rw [hL] at hi2 HV0 hpl |-;have hi3:(i:Int)<1000000:=by omega
 have HB0:Hid (Below w.heap.size w (w.alloc (Qaj 7 nn ns np))):=Za (Zb.alloc Zc _);have HE0:=Za (heap_alloc_new w (Qaj 7 nn ns np));have HV1:=Za (HV0.out.below HB0.out);obtain ⟨P,hP⟩:∃ P,w.heap.size=P:=⟨_,rfl⟩;have HPE:=Za hP;clear hcc hk hv hn hpe hip HV0 hL ;go_enter Tryz.func43,Tryz.ntmps43;go_upto_region 3 with fail;generalize w.alloc (Qaj 7 nn ns np)=W at HB0 HE0 HV1 |-;(try simp only [hP]);rw [hP] at HB0 HE0;clear hP d0 d1 d2 d3 hi2;obtain ⟨e0,e1,e2,e3⟩:=Qaa HE0.out;have HCO:=Za (fun w=>Qfr 7 104 true rfl rfl w);go_wp2_with fail;((with_reducible refine (HCO.out _).mono ?_));rintro e w1 ⟨rfl,rfl⟩;clear HCO;have HBA:Hid (∀ o,Below P w (W.alloc o)):=Za (fun o=>Qah HB0.out (by rw [<- HPE.out];exact Nat.le_refl _) (Zb.alloc Zc o));go_wp2_with fail;go_ret2;rw [HPE.out];exact ⟨by first|rfl|(rw [HTN.out];done)|(simp [HTN.out];done),HBA.out _⟩
end
section
open Go.RowKit
def Qnf (n:Nd):List UInt8 :=
 if n.kind=5 then 63::(Qbu n.str++[UInt8.ofNat n.pos.toNat]) else if n.kind=33 then [115,UInt8.ofNat n.pos.toNat] else if n.kind=4 then [] else [UInt8.ofNat (Qbd n.kind)]
def Qb9 (sub:Nat->List UInt8×Nat) (op:Int) (M q ii:Nat):List UInt8 :=
 if op=31/\q<=2 then (QaB sub (2-q) ii).1++UInt8.ofNat (M-2)::(QaB sub (M-2) (QaB sub (2-q) ii).2).1
 else (QaB sub (M-q) ii).1
def QrM (op:Int) (q:Nat):List UInt8:=if op=31/\q=2 then [1] else []
def QpM (op:Int) (M:Nat):List UInt8:=if op=31/\M=2 then [0] else []
theorem Qog {p:List Nd} {d:Nat} {op:Int} {M q ii j1:Nat} (hq:q<M) (h31:op=31->M=2\/M=3) (h1:(Qak p d ii).2=j1) :
  Qb9 (Qak p d) op M q ii=QrM op q++((Qak p d ii).1++Qb9 (Qak p d) op M (q+1) j1):=by
 unfold Qb9 QrM;by_cases h:op=31
 ·rcases h31 h with rfl|rfl
  ·rcases (show q=0\/q=1 by omega) with rfl|rfl<;>simp [h,QaB,h1]
  ·rcases (show q=0\/q=1\/q=2 by omega) with rfl|rfl|rfl<;>simp [h,QaB,h1]
 ·rw [if_neg (fun x=>h x.1),if_neg (fun x=>h x.1),if_neg (fun x=>h x.1)];obtain ⟨m,hm⟩:∃ m,M-q=m+1:=⟨M-q-1,by omega⟩;rw [hm,QaB,show M-(q+1)=m by omega,h1,List.nil_append]
theorem QpN {p:List Nd} {d:Nat} {op:Int} {M ii:Nat} (h31:op=31->M=2\/M=3):Qb9 (Qak p d) op M M ii=QpM op M:=by
 unfold Qb9 QpM;by_cases h:op=31
 ·rcases h31 h with rfl|rfl<;>simp [h,QaB]
 ·rw [if_neg (fun x=>h x.1),if_neg (fun x=>h x.1),Nat.sub_self,QaB]
theorem Qmq {p:List Nd} {d i:Nat} {n:Nd} (hn:p[i]?=some n) (hv:NdV n) (hk:n.kind≠1/\n.kind≠2/\n.kind≠3/\n.kind≠6/\n.kind≠7) :
  (Qak p (d+1) i).1=(if n.kind=4 then QaP ((Qb9 (Qak p d) n.kind n.pos.toNat 0 (i+1)).length:Nat) else Qnf n)++Qb9 (Qak p d) n.kind n.pos.toNat 0 (i+1):=by
 obtain ⟨k1,k2,k3,k6,k7⟩:=hk;rw [Qak,hn];simp only [];rw [if_neg k1,if_neg k2,if_neg k3];by_cases h4:n.kind=4
 ·rw [if_pos h4,if_pos h4];unfold Qb9;rw [if_neg (fun x=>by omega),Nat.sub_zero]
 rw [if_neg h4,if_neg h4,if_neg (by omega)];unfold Qnf Qb9;by_cases h5:n.kind=5
 ·rw [if_pos h5,if_pos h5,if_neg (fun x=>by omega),Nat.sub_zero];simp
 rw [if_neg h5,if_neg h5];by_cases h33:n.kind=33
 ·rw [if_pos h33,if_pos h33,if_neg (fun x=>by omega),Nat.sub_zero];rfl
 rw [if_neg h33,if_neg h33,if_neg h4];by_cases h31:n.kind=31
 ·rw [if_pos h31,if_pos ⟨h31,by omega⟩,h31,show Qbd 31=113 by decide,show (n.pos-2).toNat=n.pos.toNat-2 by omega];rfl
 ·rw [if_neg h31,if_neg (fun x=>h31 x.1),Nat.sub_zero];rfl
end
end Go.Proofs.YtoohondkpddmcaaGreatDoor
