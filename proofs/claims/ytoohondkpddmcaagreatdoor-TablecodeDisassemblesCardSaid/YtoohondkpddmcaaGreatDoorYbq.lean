/- Rt Sr Mt Pa -/
import Derived.Test.YtoohondkpddmcaaGreatDoorYzz
import Derived.Test.YtoohondkpddmcaaGreatDoorYbb
import Derived.Test.YtoohondkpddmcaaGreatDoorYbp
import Derived.Test.YtoohondkpddmcaaGreatDoorYbc
import Derived.Test.YtoohondkpddmcaaGreatDoorYbl
import Derived.Maps.AppendAt
namespace Go.Proofs.YtoohondkpddmcaaGreatDoor
set_option maxHeartbeats 32000000
set_option linter.unusedVariables false
set_option linter.unusedSimpArgs false
section
open Go.RowKit
attribute [local go_sem] ByteArray.mk_append_mk Qah Qai Qag
def NdsS (l:List Nd):Prop:=∀ t∈l,t.str.length<=65536/\0<=t.num
theorem NdsS.app {a b:List Nd} (h:NdsS a) (k:NdsS b):NdsS (a++b):=fun t ht=>by
 rcases List.mem_append.1 ht with ht|ht
 ·exact h t ht
 ·exact k t ht
theorem NdsS.cons {a:List Nd} {n:Nd} (hn:n.str.length<=65536/\0<=n.num) (h:NdsS a):NdsS (n::a):=fun t ht=>by
 rcases List.mem_cons.1 ht with rfl|ht
 ·exact hn
 ·exact h t ht
theorem NdsS.tail {a:List Nd} (h:NdsS a):NdsS a.tail:=fun t ht=>h t (List.mem_of_mem_tail ht)
theorem NdsS.nil:NdsS []:=fun t ht=>by cases ht
def NGS (x:PR):Prop:=match x with
 | .no _=>True
 | .ok r ns=>NdsS r/\NdsS ns
section
variable {sub:UInt8->List TokI->PR} (hs:∀ k r,NdsS r->NGS (sub k r))
include hs
theorem QkY (text:List UInt8) (ht:text.length<=65536):∀ (f m:Nat) (ns:List Nd) (r:List TokI),NdsS ns->NdsS r->NGS (Qfi sub text f m ns r)
 | 0,m,ns,r,h,hr=>trivial
 | f+1,m,ns,r,h,hr=>by
   rw [Qfi];have hk:=hs 101 r hr;cases hx:sub 101 r with
   | no x=>trivial
   | ok r1 n1 =>
     rw [hx] at hk;simp only [];split
     ·split
      ·exact ⟨hk.1.tail,.cons ⟨ht,by show (0:Int)<=0;omega⟩ (h.app hk.2)⟩
      ·trivial
     ·exact QkY text ht f (m+1) _ _ (h.app hk.2) hk.1.tail
theorem Qqp (k:UInt8) (text:List UInt8) (ht:text.length<=65536) (r:List TokI) (hr:NdsS r):NGS (Qkx sub k text r):=by
 unfold Qkx;split
 ·trivial
 split
 ·trivial
 split
 ·unfold Qel;split
  ·exact ⟨hr.tail.tail.tail,.cons ⟨ht,by show (0:Int)<=0;omega⟩ .nil⟩
  ·exact QkY hs text ht 7 0 [] _ .nil hr.tail.tail
 split
 ·trivial
 ·exact ⟨hr.tail,.cons ⟨ht,by show (0:Int)<=0;omega⟩ .nil⟩
theorem QjZ (k:UInt8):∀ (f m:Nat) (ns:List Nd) (r:List TokI),NdsS ns->NdsS r->NGS (QbZ sub k f m ns r)
 | 0,m,ns,r,h,hr=>trivial
 | f+1,m,ns,r,h,hr=>by
   rw [QbZ];split
   ·exact ⟨hr.tail,.cons ⟨by simp,by show (0:Int)<=0;omega⟩ h⟩
   split
   ·trivial
   have hr2:NdsS (if Qfh k=true/\0<m then r.tail else r):=by split;exact hr.tail;exact hr
   have hk:=hs k _ hr2;cases hx:sub k (if Qfh k=true/\0<m then r.tail else r) with
   | no x=>trivial
   | ok r1 n1=>rw [hx] at hk;exact QjZ k f (m+1) _ _ (h.app hk.2) hk.1
theorem Qj0 (k:UInt8) (r:List TokI) (hr:NdsS r):NGS (QbA sub k r):=by
 unfold QbA;split
 ·exact QjZ hs k _ 0 [] _ .nil hr.tail
 ·trivial
theorem QkZ:∀ (ks:List UInt8) (first:Bool) (ns:List Nd) (r:List TokI),NdsS ns->NdsS r->NGS (QcS sub ks first ns r)
 | [],first,ns,r,h,hr=>by rw [QcS];split;exact ⟨hr.tail,h⟩;trivial
 | k::ks,first,ns,r,h,hr=>by
   rw [QcS];split
   ·split;exact ⟨hr.tail,h⟩;trivial
   split
   ·trivial
   have hr2:NdsS (if first=false then r.tail else r):=by split;exact hr.tail;exact hr
   have hk:=hs k _ hr2;cases hx:sub k (if first=false then r.tail else r) with
   | no x=>trivial
   | ok r1 n1=>rw [hx] at hk;exact QkZ ks false _ _ (h.app hk.2) hk.1
theorem Qk0:∀ (ks:List UInt8) (ns:List Nd) (r:List TokI),NdsS ns->NdsS r->NGS (QcT sub ks ns r)
 | [],ns,r,h,hr=>by rw [QcT];exact ⟨hr,h⟩
 | k::ks,ns,r,h,hr=>by
   rw [QcT];have hk:=Qj0 hs k r hr;cases hx:QbA sub k r with
   | no x=>trivial
   | ok r1 n1=>rw [hx] at hk;exact Qk0 ks _ _ (h.app hk.2) hk.1
theorem QmN (kinds:List UInt8) (r:List TokI) (hr:NdsS r):NGS (Qb2 sub kinds r):=by
 unfold Qb2;split
 ·exact ⟨hr,.nil⟩
 split
 ·trivial
 have ha:=QkZ hs kinds true [] r.tail .nil hr.tail;cases hx:QcS sub kinds true [] r.tail with
 | no x=>trivial
 | ok r1 n1=>rw [hx] at ha;exact Qk0 hs _ _ _ ha.2 ha.1
theorem Qqq (k:UInt8) (w:List UInt8) (r:List TokI) (hr:NdsS r):NGS (Qky sub k w r):=by
 unfold Qky;cases hv:QiS w with
 | some x =>
   obtain ⟨op,n⟩:=x;simp only [];split
   ·exact ⟨hr.tail,.cons ⟨by simp,by show (0:Int)<=(n:Int);omega⟩ .nil⟩
   ·trivial
 | none =>
   simp only [];split
   ·trivial
   split
   ·split
    ·have:=QmN hs [101] r.tail hr.tail;cases hx:Qb2 sub [101] r.tail with
     | no x=>trivial
     | ok x ns=>rw [hx] at this;exact ⟨this.1,.cons ⟨by simp,by show (0:Int)<=0;omega⟩ this.2⟩
    ·exact ⟨hr.tail,.cons ⟨by simp,by show (0:Int)<=0;omega⟩ .nil⟩
   ·have:=QmN hs (Qax (opW w)).2 r.tail hr.tail;cases hx:Qb2 sub (Qax (opW w)).2 r.tail with
    | no x=>trivial
    | ok x ns =>
      rw [hx] at this;simp only [];split
      ·have hb:=Qj0 hs 83 x.tail this.1.tail;cases hy:QbA sub 83 x.tail with
       | no z=>trivial
       | ok r2 n2=>rw [hy] at hb;exact ⟨hb.1,.cons ⟨by simp,by show (0:Int)<=0;omega⟩ (this.2.app hb.2)⟩
      ·exact ⟨this.1,.cons ⟨by simp,by show (0:Int)<=0;omega⟩ this.2⟩
end
theorem Qj1:∀ (f:Nat) (k:UInt8) (r:List TokI),NdsS r->NGS (Qe6 f k r)
 | 0,k,r,hr=>trivial
 | f+1,k,r,hr=>by
   cases r with
   | nil=>trivial
   | cons t q =>
     have ht:=hr t (by simp);unfold Qe6;simp only [];split
     ·exact Qqp (Qj1 f) _ _ ht.1 _ hr
     split
     ·exact Qqq (Qj1 f) _ _ _ hr
     split
     ·exact ⟨hr.tail,.cons ⟨by simp,ht.2⟩ .nil⟩
     split
     ·exact ⟨hr.tail,.cons ⟨ht.1,by show (0:Int)<=0;omega⟩ .nil⟩
     ·trivial
theorem Qk1 (F:Nat):∀ (f:Nat) (ns:List Nd) (r:List TokI),NdsS ns->NdsS r->NGS (QeU F f ns r)
 | 0,ns,r,h,hr=>by rw [QeU];exact ⟨hr,h⟩
 | f+1,ns,r,h,hr=>by
   rw [QeU];split
   ·exact ⟨.nil,h⟩
   have hk:=Qj1 F 68 r hr;cases hx:Qe6 F 68 r with
   | no x=>trivial
   | ok r1 n1=>rw [hx] at hk;exact Qk1 F f _ _ (h.app hk.2) hk.1
theorem Qr9 (l:List Tok) (h:∀ t∈l,QmL t):NdsS (l.map Tok.toI):=by
 intro t ht;obtain ⟨x,hx,rfl⟩:=List.mem_map.1 ht;refine ⟨(h x hx).1,?_⟩;show (0:Int)<=(x.num:Int);omega
set_option maxRecDepth 100000 in
theorem Qob (s:List UInt8) (m:Int) (w:World) (hm:SynG m w) (hs:s.length<=4611686018427380000) :
  Calls Tryz.prog 52 #[.string ⟨s.toArray⟩] w (Qdg w (QjY s)):=by
 have HSC:=Za (Qpl s w hs);have HG:=Za hm;obtain ⟨Z,hZ⟩:∃ Z,Hid (QjY s=Z):=⟨_,Za rfl⟩;have htok:=Qr7 s;have hlen:=Qpm s;obtain ⟨x,hx⟩:∃ x,Qeg s=x:=⟨_,rfl⟩;rw [hx] at HSC htok hlen;have HZ0:Hid (Z=if x.2.2≠0 then ([],(x.2.1:Int),(x.2.2:Int)) else Qoa s.length (x.1.map Tok.toI)):=Za (by rw [<- hZ.out];unfold QjY;rw [hx]);obtain ⟨tl,pos,er⟩:=x;simp only at htok hlen HZ0;unfold QlS at HSC;simp only at HSC;have HTOK:=Za htok;rw [hZ.out];clear hx hm htok hZ;go_enter Tryz.func52,Tryz.ntmps52;go_wp2_with fail;((with_reducible refine HSC.out.mono ?_));rintro e w1 ⟨v,rfl,hv,hb1⟩;have HG1:=Za (HG.out.below hb1 HG.out.low);have HB1:=Za hb1;have HV:=Za hv;obtain ⟨va,vc,rfl⟩:=hv.form;clear hb1 hv HSC HG;by_cases he:er=0
 ·subst he;have HZ1:Hid (Z=Qoa s.length (tl.map Tok.toI)):=Za (by rw [HZ0.out,if_neg (fun h=>h rfl)]);obtain ⟨T,hT⟩:∃ T,tl.map Tok.toI=T:=⟨_,rfl⟩;obtain ⟨Y,hY⟩:∃ Y,Hid (QeU T.length T.length [] T=Y):=⟨_,Za rfl⟩;have HZ2:Hid (Z=Qr8 s.length Y):=Za (by rw [HZ1.out,hT,<- hY.out]<;>rfl);have HNG:Hid (NGS Y):=Za (by rw [<- hY.out];exact Qk1 _ _ _ _ .nil (by rw [<- hT];exact Qr9 _ HTOK.out));have htl:tl.length=T.length:=by rw [<- hT,List.length_map]
  have HTB:Hid (TokB w1 w1.heap.size (.slice va tl.length vc) T):=Za (by rw [<- hT];exact HV.out.tokB);have HTG:Hid (TGood T):=Za (by rw [<- hT];exact Qqo HTOK.out);obtain ⟨b,hb⟩:∃ b,w1.heap.size=b:=⟨_,rfl⟩;have HBE:=Za hb;rw [htl] at HTB hlen |-;have hal:Below b w1 (w1.alloc (Qd4 (.slice va T.length vc) 0 (.slice none 0 0) (-1))):=Zb.alloc (by omega) _;have hsz0:b<=(w1.alloc (Qd4 (.slice va T.length vc) 0 (.slice none 0 0) (-1))).heap.size:=by rw [<- hb];exact hal.size
  have HP0:Hid (RSt m b b (w1.alloc (Qd4 (.slice va T.length vc) 0 (.slice none 0 0) (-1))) T 0 (-1) []):=Za (by
   have h1:=heap_alloc_new w1 (Qd4 (.slice va T.length vc) 0 (.slice none 0 0) (-1));rw [hb] at h1;have h2:=HTB.out;rw [hb] at h2;exact ⟨⟨_,_,h1,h2.below hal,NodesI.nil _ _⟩,Nat.le_refl _,hsz0,HG1.out.below hal (by rw [<- hb];exact HG1.out.low),by rw [<- hb];exact HG1.out.low,HTG.out,Nat.zero_le _,by omega,by omega,by simp⟩)
  have HL0:=Za hal;have HV1:Hid (∀ (i:Nat) (t:TokI) (q:List TokI),T.drop i=t::q->∃ g off,va=some ⟨g,off,none⟩/\g<b/\i<T.length/\TAt w1 g (off+i * 4) t):=Za (fun i t q hd=>by
   obtain ⟨g,off,cap,hva,h1,h2,h3⟩:=HTB.out.drop_cells hd;injection hva with hva _ _;exact ⟨g,off,hva,by rw [<- hb];exact h1,h2,h3⟩)
  have hT6:T.length<=65536:=by omega
  clear hT HZ0 HZ1 HTOK HV hal hsz0 HG1 HTB HTG hb htl hlen;go_wp2_with fail;rw [HBE.out];generalize w1.alloc (Qd4 (.slice va T.length vc) 0 (.slice none 0 0) (-1))=W0 at HP0 HL0 |-;have HSUBS:=Za (QmK m b b T (by omega) T.length);have HREL:Hid (∃ z,W0=z/\((∃ (f:Nat) (ns:List Nd) (i:Nat),(T.drop i).length<=f/\Hid (QeU T.length f ns (T.drop i)=Y)/\Hid (RSt m b b z T i (-1) ns)/\Hid (Below b w1 z))\/(∃ (i jf:Nat) (o':List Nd),Hid (Y = .no (T.drop jf))/\Hid (RSt m b b z T i jf o')/\Hid (Below b w1 z)))):=Za ⟨_,rfl,.inl ⟨T.length,[],0,by simp,hY,HP0,HL0⟩⟩;clear HP0 HL0 hY;go_loopw [39] (fun _ wr=>Hid ((∃ (f:Nat) (ns:List Nd) (i:Nat),(T.drop i).length<=f/\Hid (QeU T.length f ns (T.drop i)=Y)/\Hid (RSt m b b wr T i (-1) ns)/\Hid (Below b w1 wr))\/(∃ (i jf:Nat) (o':List Nd),Hid (Y = .no (T.drop jf))/\Hid (RSt m b b wr T i jf o')/\Hid (Below b w1 wr)))) (fun _ wr=>Qgb wr b)
  case atStart =>
   obtain ⟨z,rfl,h⟩:=HREL.out;exact Za h
  case round =>
   clear HREL;rcases hrel.out with ⟨f,ns,i,hqf,HX,HP,HB⟩|⟨i,jf,o',HXF,HP,HB⟩
   ·clear hrel;obtain ⟨w3,rfl⟩:∃ y:World,y=wr:=⟨_,rfl⟩;have HLF:Hid (Qgb w3 b=1+(T.length-i)):=Za (by rw [HP.out.left,if_neg (by omega)]);have hix:=HP.out.ix;have hol:=HP.out.ol;obtain ⟨tv,nv,k1,k2,k3⟩:=HP.out.ex;obtain ⟨ta,tcap,rfl,tl2,tc⟩:=k2;obtain ⟨na,nc,rfl⟩:=k3.form;obtain ⟨c0,c1,c2,c3⟩:=Qac k1;have HN:=Za k3;clear k1 k3 tc;by_cases hlt:i<T.length
    ·have hlt':(i:Int)<(T.length:Int):=by omega
     obtain ⟨f,rfl⟩:∃ g,f=g+1:=⟨f-1,by rw [List.length_drop] at hqf;omega⟩;have hne:T.drop i≠[]:=by intro e;have:=congrArg List.length e;rw [List.length_drop] at this;simp at this;omega
     have HX2:Hid (Y=match Qe6 T.length 68 (T.drop i) with|.no x=>.no x|.ok r1 n1=>QeU T.length f (ns++n1) r1):=Za (by rw [<- HX.out,QeU,if_neg hne]<;>rfl);have hgood:=QfO T.length 68 (T.drop i);clear HX;go_upto_region 5 with fail;go_quiet (fail);go_wp2_with fail;have HP4:Hid (RSt m b b (w3.drewN nq) T i (-1) ns):=Za (HP.out.below (below_drewN Zb _));have HB4:Hid (Below b w1 (w3.drewN nq)):=Za (below_drewN HB.out _);clear c0 c1 c2 c3;generalize w3.drewN nq=W4 at HP4 HB4 |-;have HSUB:Hid (Calls Tryz.prog 98 #[.pointer (some ⟨b,0,none⟩),.int .u8 68] W4 (Qgc m b b T W4 ns (Qe6 T.length 68 (T.drop i)))):=Za (HSUBS.out 68 i ns W4 HP4.out (by omega));cases hx:Qe6 T.length 68 (T.drop i) with
     | no x =>
       rw [hx] at HSUB HX2;have HX3:Hid (Y = .no x):=HX2;clear hx hgood;((with_reducible refine HSUB.out.mono ?_));rintro e w6 ⟨rfl,hb6,i6,j6,o6,rfl,hp6⟩;have HB6:Hid (Below b w1 w6):=Za (HB4.out.trans hb6);have HP6:=Za hp6;clear hb6 hp6;go_wp2_with fail;go_roundw
       case rel=>refine Za ?_;exact .inr ⟨i6,j6,o6,HX3,HP6,HB6⟩
       case measure=>rw [HLF.out,HP6.out.left,if_pos (by omega)];omega
     | ok x n1 =>
       rw [hx] at HSUB HX2 hgood;have HX3:Hid (QeU T.length f (ns++n1) x=Y):=Za HX2.out.symm;obtain ⟨d,hd1,hd2,hd3,hd4⟩:=hgood;have HGOOD:=Za hd3;clear hx hd3;((with_reducible refine HSUB.out.mono ?_));rintro e w6 ⟨rfl,hb6,i6,hi6,hp6⟩;have hlt6:i<i6:=Qco hp6.ix hi6 HGOOD.out hd1 hd2;have hix6:=hp6.ix;subst hi6;have HB6:Hid (Below b w1 w6):=Za (HB4.out.trans hb6);have HP6:=Za hp6;have hf6:(T.drop i6).length<=f:=by rw [List.length_drop] at hqf |-;omega
       clear hb6 hp6;go_wp2_with fail;go_roundw
       case rel=>refine Za ?_;exact .inl ⟨f,ns++n1,i6,hf6,HX3,HP6,HB6⟩
       case measure=>rw [HLF.out,HP6.out.left,if_neg (by omega)];omega
    ·have hlt':¬ (i:Int)<(T.length:Int):=by omega
     have HX2:Hid (Y = .ok [] ns):=Za (by
      rw [<- HX.out,List.drop_eq_nil_of_le (by omega)];cases f with
      | zero=>rw [QeU]
      | succ f=>rw [QeU,if_pos rfl])
     have HZ3:Hid (Z=if Qbk ns=true then (ns,0,0) else ([],0,11)):=Za (by rw [HZ2.out,HX2.out]<;>rfl);have hnd:NdsS ns:=by
      have h:=HNG.out;rw [HX2.out] at h;exact h.2
     obtain ⟨vb,hvb⟩:∃ z,Qbk ns=z:=⟨_,rfl⟩;have HVA:=Za (fun (x:World) (hx:Below w3.heap.size w3 x)=>QhF ns (fun t ht=>Nat.le_trans (hnd t ht).1 (by decide)) vb (Za hvb) (.slice na ns.length nc) x ((HN.out.below hx).sl (fun t ht=>⟨Nat.le_trans (hnd t ht).1 (by omega),(hnd t ht).2⟩)) (by omega));rw [hvb] at HZ3;clear HX hvb HX2 HZ2 HNG hlt hnd HLF;go_upto_region 5 with fail;go_quiet (fail);go_wp2_with fail;((with_reducible refine (HVA.out _ (below_drewN Zb _)).mono ?_));rintro e w4 ⟨rfl,hb4⟩;have hb34:Below w3.heap.size w3 w4:=Qar (below_drewN Zb _) Zc hb4;have HBW:Hid (Below w.heap.size w w4):=Za ((HB1.out.trans (HB.out.mono (by rw [<- HBE.out];exact HB1.out.size))).trans (hb34.mono (by have:=HP.out.size;have:=HB1.out.size;have:=HBE.out;omega)));have HN4:=Za (HN.out.below hb34);have e2:w4.cell? ⟨b,2,none⟩=some (.slice na ns.length nc):=(hb34.cell (p:=⟨b,2,none⟩) (World.block_lt_of_cell? w3 ⟨b,2,none⟩ c2)).trans c2;clear hb4 hb34 c0 c1 c2 c3;cases vb with
     | false =>
       have HZ4:Hid (Z=([],0,11)):=Za (by rw [HZ3.out]<;>rfl);go_wp2_with fail;go_ret3;unfold Qdg;rw [HZ4.out];exact ⟨_,rfl,NodesI.nil _ _,HBW.out⟩
     | true =>
       have HZ4:Hid (Z=(ns,0,0)):=Za (by rw [HZ3.out]<;>rfl);go_wp2_with fail;go_ret3;unfold Qdg;rw [HZ4.out];exact ⟨_,rfl,HN4.out.base (by rw [<- HBE.out];exact HB1.out.size),HBW.out⟩
   ·clear hrel;obtain ⟨w3,rfl⟩:∃ y:World,y=wr:=⟨_,rfl⟩;have HZ3:Hid (Z=([],Qvl s.length (T.drop jf),2)):=Za (by rw [HZ2.out,HXF.out]<;>rfl);obtain ⟨⟨tv,nv,k1,k2,k3⟩,_⟩:=HP.out;obtain ⟨c0,c1,c2,c3⟩:=Qac k1;obtain ⟨Fv,hFv⟩:∃ Fv:Int,(jf:Int)=Fv:=⟨_,rfl⟩;have hF3:decide (Fv<0)=false:=decide_eq_false (by omega);have hF4:Fv>=0:=by omega
    rw [hFv] at c3;have HFV:=Za hFv;have HBW:Hid (Below w.heap.size w w3):=Za (HB1.out.trans (HB.out.mono (by rw [<- HBE.out];exact HB1.out.size)));clear k1 k2 k3 hFv c0 c1 c2;go_upto_region 5 with fail;have k3:∀ x,Grows (w3) x->x.cell? ⟨b,3,none⟩=some _:=fun x hx=>(hx.cell (p:=⟨b,3,none⟩) (World.block_lt_of_cell? _ ⟨b,3,none⟩ c3)).trans c3;refine Qak (Grows (w3)) 17 [.reads [0,1,2,3,4,5,6,7,8,9,10,11,12,13,14,15,16]] (by kernel_rfl) (by kernel_rfl) (by kernel_rfl) (by kernel_rfl) (by kernel_rfl) (fun _ _ d _ _ h=>by cases d<;>exact h) (Grows.self _) ?_;refine Qaf ?_;simp only [Qab,pQ1,pQ2,pQ3,pQ4,pQ5,pQ6]
    repeat (go_big_quiet_step ((intro hb;rw [k3 _ hb];exact ⟨rfl,rfl⟩)))
    (try simp only [hF3])
    repeat (go_big_quiet_step (fail))
    refine wpQuiet_nil ?_;clear k3;refine Qat ?_;have d3b:w3.drew.cell? ⟨b,3,none⟩=some (.int .i64 Fv):=c3;have d3:(w3.drewN 1).cell? ⟨b,3,none⟩=some (.int .i64 Fv):=c3;have HBX:Hid (Below w.heap.size w (w3.drewN 1)):=Za (below_drewN HBW.out _);have HBY:Hid (Below b w1 (w3.drewN 1)):=Za (below_drewN HB.out _);clear c3 HBW HB HP;cases hd:T.drop jf with
    | nil =>
      have hge:¬ Fv<(T.length:Int):=by
       have:=congrArg List.length hd;rw [List.length_drop] at this;simp only [List.length_nil] at this;have:=HFV.out;omega
      have HZ4:Hid (Z=([],(s.length:Int),2)):=Za (by rw [HZ3.out,hd]<;>rfl);clear hd;go_wp2_with fail;go_ret3;unfold Qdg;rw [HZ4.out];exact ⟨_,rfl,NodesI.nil _ _,HBX.out⟩
    | cons t q =>
      obtain ⟨g,off,rfl,hgb,hjl,t0,t1,t2,t3⟩:=HV1.out jf t q hd;have hge:Fv<(T.length:Int):=by have:=HFV.out;omega
      have HZ4:Hid (Z=([],t.pos,2)):=Za (by rw [HZ3.out,hd]<;>rfl);have HT3:Hid ((w3.drewN 1).cell? ⟨g,off+jf * 4+3,none⟩=some (.int .i64 t.pos)):=Za ((HBY.out.cell (p:=⟨g,off+jf * 4+3,none⟩) hgb).trans t3);clear hd t0 t1 t2 t3;go_upto_region 8 with fail;have e0:Fv=(jf:Int):=HFV.out.symm;clear HFV;subst e0;have k3:∀ x,Grows (w3.drewN 1) x->x.cell? ⟨b,3,none⟩=some _:=fun x hx=>(hx.cell (p:=⟨b,3,none⟩) (World.block_lt_of_cell? _ ⟨b,3,none⟩ d3)).trans d3;have ht3:=HT3.out;have q3:∀ x,Grows (w3.drewN 1) x->x.cell? ⟨g,off+jf * 4+3,none⟩=some _:=fun x hx=>(hx.cell (p:=⟨g,off+jf * 4+3,none⟩) (World.block_lt_of_cell? _ ⟨g,off+jf * 4+3,none⟩ ht3)).trans ht3;refine Qak (Grows (w3.drewN 1)) 9 [.reads [0,1,2,3,4,5,6,7,8],.act 9,.act 10] (by kernel_rfl) (by kernel_rfl) (by kernel_rfl) (by kernel_rfl) (by kernel_rfl) (fun _ _ d _ _ h=>by cases d<;>exact h) (Grows.self _) ?_;refine Qaf ?_;simp only [Qab,pQ1,pQ2,pQ3,pQ4,pQ5,pQ6]
      repeat (go_big_quiet_step (first|(intro hb;rw [k3 _ hb];exact ⟨rfl,rfl⟩)|(intro hb;rw [q3 _ hb];exact ⟨rfl,rfl⟩)))
      refine wpQuiet_nil ?_;clear k3 q3;refine Qaa rfl ?_;simp only [Qab,pQ1,pQ2,pQ3,pQ4,pQ5,pQ6];go_wp2_with fail;refine ⟨fun h=>absurd h (by decide),?_⟩;refine Qaa rfl ?_;simp only [Qab,pQ1,pQ2,pQ3,pQ4,pQ5,pQ6];go_wp2_with fail;refine ⟨fun h=>absurd h (by decide),Qat ?_⟩;go_wp2_with fail;go_ret3;unfold Qdg;rw [HZ4.out];exact ⟨_,rfl,NodesI.nil _ _,below_drewN HBX.out 1⟩
 ·have f1:((er:Int) != 0)=true:=by rw [bne_iff_ne];omega
  have HZ1:Hid (Z=([],(pos:Int),(er:Int))):=Za (by rw [HZ0.out,if_pos he]);clear he HZ0;go_wp2_with fail;go_ret3;unfold Qdg;rw [HZ1.out];exact ⟨_,rfl,NodesI.nil _ _,HB1.out⟩
theorem Qqr (s:List UInt8) (ns:List Nd) (pos er m:Int) (H:Hid (QjY s=(ns,pos,er))) (w:World) (hm:SynG m w) (hs:s.length<=4611686018427380000) :
  Calls Tryz.prog 52 #[.string ⟨s.toArray⟩] w fun e w'=>∃ v,e = .returned (.tuple #[v,.int .i64 pos,.int .i64 er])/\NodesI w' w.heap.size v ns/\Below w.heap.size w w':=by
 have:=Qob s m w hm hs;unfold Qdg at this;rw [H.out] at this;exact this
end
section
open Go.RowKit
attribute [local go_sem] ByteArray.mk_append_mk Qah Qai Qag
theorem QtQ (a b d a' b' d':Int) (s s':List UInt8) (w:World):(Op.equalIn 10000 46 (.agg #[.int .i64 a,.int .u64 b,.string ⟨s.toArray⟩,.int .i64 d]) (.agg #[.int .i64 a',.int .u64 b',.string ⟨s'.toArray⟩,.int .i64 d'])).run Tryz.prog w = .ok (a==a'&&b==b'&&s==s'&&d==d') w:=by
 have hS:Tryz.prog.underlying 46=some (.struct (Tryz.prog.fieldsOf 46)):=by kernel_rfl
 have hp:Tryz.prog.stoodInHeld 46=false:=by kernel_rfl
 rw [show (10000:Nat)=9999+1 from rfl,run_equalIn_agg w 9999 46 _ _ hS hp];simp only [Program.fieldsOf,Tryz.underlying46];have u3:=Tryz.underlying3;have u5:=Tryz.underlying32;have u9:=Tryz.underlying9;go_simp;by_cases h1:a=a'<;>by_cases h2:b=b'<;>by_cases h3:s=s'<;>by_cases h4:d=d'<;>simp [h1,h2,h3,h4]
theorem Qu0 (a b d a' b' d':Int) (s s':List UInt8) (w:World):(binOp .neq 46 (.agg #[.int .i64 a,.int .u64 b,.string ⟨s.toArray⟩,.int .i64 d]) (.agg #[.int .i64 a',.int .u64 b',.string ⟨s'.toArray⟩,.int .i64 d'])).run Tryz.prog w = .ok (.bool (!(a==a'&&b==b'&&s==s'&&d==d'))) w:=by
 rw [run_neq_struct,QtQ];rfl
theorem QtR (a b d:Int) (s:List UInt8) (w:World):(binOp .neq 46 (.agg #[.int .i64 a,.int .u64 b,.string ⟨s.toArray⟩,.int .i64 d]) (.agg #[.int .i64 a,.int .u64 b,.string ⟨s.toArray⟩,.int .i64 d])).run Tryz.prog w = .ok (.bool false) w:=by
 rw [Qu0];simp
theorem NSl.cells {w:World} {a:Option Addr} {n c:Nat} {l:List Nd} (h:NSl w (.slice a n c) l) (i:Nat) (hi:i<l.length):∃ b off,a=some ⟨b,off,none⟩/\TAt w b (off+i * 4) l[i]:=by
 obtain ⟨⟨a',cap',hv,hc⟩,_⟩:=h;injection hv with e1 _ _;subst e1;obtain ⟨b,off,e,hk⟩:=hc (by rintro rfl;simp at hi);exact ⟨b,off,e,hk i hi⟩
set_option maxRecDepth 100000 in
theorem Qih (va vb:Value) (l:List Nd) (w:World) (h1:NSl w va l) (h2:NSl w vb l) (hl:l.length<=9223372036854770000) :
  Calls Tryz.prog 23 #[va,vb] w fun e w'=>e = .returned (.bool true)/\∃ n,w'=w.drewN n:=by
 have H1:=h1;have H2:=h2;obtain ⟨⟨a1,p1,rfl,hc1⟩,_⟩:=H1;obtain ⟨⟨a2,p2,rfl,hc2⟩,_⟩:=H2;have K1:=Za h1.cells;have K2:=Za h2.cells;clear h1 h2 hc1 hc2;go_enter Tryz.func23,Tryz.ntmps23;go_wp2_with fail;go_loopw [5] (fun i wr=>∃ k:Nat,i = .int .i64 k/\k<=l.length/\∃ n,wr=w.drewN n) (fun i _=>l.length-(intOf i).toNat)
 case atStart=>exact ⟨0,rfl,Nat.zero_le _,0,rfl⟩
 case round =>
  obtain ⟨k,rfl,hk,n,rfl⟩:=hrel;by_cases hlt:k<l.length
  ·obtain ⟨b1,o1,e1,c0,c1,c2,c3⟩:=K1.out k hlt;obtain ⟨b2,o2,e2,d0,d1,d2,d3⟩:=K2.out k hlt;subst e1 e2;generalize l[k]=t at *;obtain ⟨tk,tn,ts,tp⟩:=t;simp only at c0 c1 c2 c3 d0 d1 d2 d3;have hN:=QtR tk tn tp ts;go_wp2_with fail;go_quiet (fail);go_wp2_with fail;go_roundw
   case rel=>exact ⟨k+1,by go_num,by omega,_,rfl⟩
   case measure=>simp [intOf];omega
  ·go_wp2_with fail;go_ret;exact ⟨rfl,n,rfl⟩
def aw1:List UInt8:=[78,97,109,101,32,40,95,65,68,82,44,32,49,54,41]
def awP:List Nd:=[⟨13,0,[],2⟩,⟨3,0,[95,65,68,82],0⟩,⟨1,16,[],0⟩]
theorem Qu1:QjY aw1=(awP,0,0):=by decide +kernel
end
section
open Go.RowKit
attribute [local go_sem] ByteArray.mk_append_mk Qah Qai Qag
theorem QtS (m:Int) (p:List Nd) (s:List UInt8) (er:Int) (H:Hid (Qfj p=(s,er))) (v:Value) (w:World) (hv:NSl w v p) (hm:SynG m w) (hP:Qml p) (hl:p.length<=9223372036854775000) :
  Calls Tryz.prog 17 #[v] w fun e w'=>e = .returned (.tuple #[.string ⟨s.toArray⟩,.int .i64 er])/\Below w.heap.size w w':=by
 have:=QrU m p v w hv hm hP hl;rw [H.out] at this;exact this
theorem Qoc (m:Int) (s:List UInt8) (ns:List Nd) (i er:Int) (H:Hid (Qeu s=(ns,i,er))) (w:World) (hm:SynG m w) (hs:s.length<=9223372036854775000) :
  Calls Tryz.prog 22 #[.string ⟨s.toArray⟩] w fun en w'=>∃ v,en = .returned (.tuple #[v,.int .i64 i,.int .i64 er])/\NodesI w' w.heap.size v ns/\Below w.heap.size w w':=by
 have:=Qqh m s w hm hs;rw [H.out] at this;exact this
theorem QtT (s:List UInt8) (ns:List Nd) (i er:Int) (H:Hid (Qeu s=(ns,i,er))) (w:World) (hs:s.length<=9223372036854775000) :
  Calls Tryz.prog 56 #[.string ⟨s.toArray⟩] w fun en w'=>∃ v,en = .returned (.tuple #[v,.int .i64 i,.int .i64 er])/\NodesI w' w.heap.size v ns/\Below w.heap.size w w':=by
 have:=Qr5 s w hs;rw [H.out] at this;exact this
theorem QmO (s:List UInt8):∀ (f:Nat) (ns:List Nd) (pos q:Nat) (ms:List Nd),pos<=s.length->(∀ n∈ns,NdD n)->Qfa s f ns pos = .ok q ms->∀ n∈ms,NdD n
 | 0,ns,pos,q,ms,hp,h,e=>by rw [Qfa] at e;cases e
 | f+1,ns,pos,q,ms,hp,h,e=>by
   by_cases hpe:pos=s.length
   ·rw [Qfa,if_pos hpe] at e;injection e with _ e;rw [<- e];exact h
   ·rw [QhI hpe] at e;have hd:=QbW s (s.length+1) 68 false pos s.length hp Zc;cases hx:Qas s (s.length+1) 68 false pos s.length with
    | no r err=>rw [hx] at e;cases e
    | ok r ks =>
      rw [hx] at e hd;obtain ⟨_,d2,_,_,d5⟩:=hd;exact QmO s f (ns++ks) r q ms d2 (fun n hn=>by
       rcases List.mem_append.1 hn with h1|h1
       ·exact h n h1
       ·exact d5 n h1) e
theorem Qsa (s:List UInt8):∀ n∈(Qeu s).1,NdD n:=by
 unfold Qeu;split
 ·intro n h;cases h
 ·cases hx:Qfa s (s.length+1) [] 0 with
  | no q err=>intro n h;cases h
  | ok q ns =>
    unfold Qrn;simp only [];split
    ·exact QmO s _ [] 0 q ns (Nat.zero_le _) (by simp) hx
    ·intro n h;cases h
theorem Qsb (s:List UInt8):(Qeu s).1.length<=2048:=by
 unfold Qeu;split
 ·simp
 ·unfold Qrn;split
  ·simp
  ·split
   ·next hv =>
    unfold Qbk at hv;rw [Bool.and_eq_true,decide_eq_true_eq] at hv;exact hv.1
   ·simp
theorem NdD.ok {l:List Nd} (h:∀ n∈l,NdD n):NdsOk l:=fun t ht=>by have:=h t ht;unfold NdD at this;omega
def aw6:List UInt8:=[19,95,65,68,82,10,16]
theorem Qu2:Qfj awP=(aw6,0):=by decide +kernel
theorem Qu3:Qeu aw6=(awP,0,0):=by decide +kernel
theorem Qu4:Qeu [19,95]=([],1,4):=by decide +kernel
theorem awP_nds6:NdsOk awP/\Qml awP:=by
 constructor
 ·intro t ht;simp only [awP,List.mem_cons,List.not_mem_nil,or_false] at ht;rcases ht with rfl|rfl|rfl<;>simp
 ·intro t ht;simp only [awP,List.mem_cons,List.not_mem_nil,or_false] at ht;rcases ht with rfl|rfl|rfl<;>simp
set_option maxRecDepth 100000 in
theorem Qod (m:Int) (w:World) (hm:SynG m w):Calls Tryz.prog 20 #[] w fun e w'=>e = .returned (.bool true)/\Below w.heap.size w w':=by
 have HP1:=Za (Qqr aw1 awP 0 0 m (Za Qu1) w hm (by decide));have HG:=Za hm;unfold aw1 at HP1;clear hm;go_enter Tryz.func20,Tryz.ntmps20;go_wp2_with fail;((with_reducible refine HP1.out.mono ?_));rintro e w1 ⟨v1,rfl,hv1,hb1⟩;obtain ⟨a1,c1,rfl⟩:=hv1.form;have HG1:=Za (HG.out.below hb1 HG.out.low);have HN1:=Za (hv1.sl awP_nds6.1);have HB1:=Za hb1;have HP2:=Za (QtS m awP aw6 0 (Za Qu2) _ w1 HN1.out HG1.out awP_nds6.2 (by decide));unfold aw6 at HP2;clear hv1 hb1 HP1 HG;go_wp2_with fail;((with_reducible refine HP2.out.mono ?_));rintro e w2 ⟨rfl,hb2⟩;have HG2:=Za (HG1.out.below hb2 HG1.out.low);have HN2:=Za (HN1.out.below hb2);have HB2:Hid (Below w.heap.size w w2):=Za (Qar HB1.out Zc hb2);have HP3:=Za (Qoc m aw6 awP 0 0 (Za Qu3) w2 HG2.out (by decide));unfold aw6 at HP3;clear hb2 HP2 HG1 HN1 HB1;go_wp2_with fail;((with_reducible refine HP3.out.mono ?_));rintro e w3 ⟨v3,rfl,hv3,hb3⟩;obtain ⟨a3,c3,rfl⟩:=hv3.form;have HG3:=Za (HG2.out.below hb3 HG2.out.low);have HN3:=Za (HN2.out.below hb3);have HM3:=Za (hv3.sl awP_nds6.1);have HB3:Hid (Below w.heap.size w w3):=Za (Qar HB2.out Zc hb3);have HP4:=Za (Qoc m [19,95] [] 1 4 (Za Qu4) w3 HG3.out (by decide));clear hv3 hb3 HP3 HG2 HN2 HB2;go_wp2_with fail;((with_reducible refine HP4.out.mono ?_));rintro e w4 ⟨v4,rfl,hv4,hb4⟩;have HN4:=Za (HN3.out.below hb4);have HM4:=Za (HM3.out.below hb4);have HB4:Hid (Below w.heap.size w w4):=Za (Qar HB3.out Zc hb4);have HEQ:=Za (Qih _ _ awP w4 HN4.out HM4.out (by decide));clear hv4 hb4 HP4 HG3 HN3 HM3 HB3;go_wp2_with fail;((with_reducible refine HEQ.out.mono ?_));rintro e w5 ⟨rfl,n,rfl⟩;go_wp2_with fail;go_ret;exact ⟨rfl,below_drewN HB4.out n⟩
set_option maxRecDepth 100000 in
theorem Qii (m:Int) (s:List UInt8) (w:World) (hm:SynG m w) (hs:s.length<=9223372036854775000):Calls Tryz.prog 25 #[.string ⟨s.toArray⟩] w fun e w'=>e = .returned (.bool true)/\Below w.heap.size w w':=by
 have hnd:=Qsa s;have hln:=Qsb s;have HD:=fun ns i er H w hm=>Qoc m s ns i er H w hm hs;have HR:=fun ns i er H w=>QtT s ns i er H w hs;obtain ⟨ns,i,er,hx⟩:∃ ns i er,Hid (Qeu s=(ns,i,er)):=⟨_,_,_,Za rfl⟩;have HP1:=Za (HD ns i er hx w hm);have HP2:=Za (fun w=>HR ns i er hx w);rw [hx.out] at hnd hln;have HOK:=Za (NdD.ok hnd);have HLN:Hid (ns.length<=2048):=Za hln;have HG:=Za hm;clear hm HD HR hx hnd hln hs;go_enter Tryz.func25,Tryz.ntmps25;go_wp2_with fail;((with_reducible refine HP1.out.mono ?_));rintro e w1 ⟨v1,rfl,hv1,hb1⟩;have HN1:=Za (hv1.sl HOK.out);have HB1:=Za hb1;clear hv1 hb1 HP1;go_wp2_with fail;((with_reducible refine (HP2.out _).mono ?_));rintro e w2 ⟨v2,rfl,hv2,hb2⟩;have HN2:=Za (HN1.out.below hb2);have HM2:=Za (hv2.sl HOK.out);have HB2:Hid (Below w.heap.size w w2):=Za (Qar HB1.out Zc hb2);have HEQ:=Za (Qih _ _ ns w2 HN2.out HM2.out (by have:=HLN.out;omega));clear hv2 hb2 HP2 HN1 HB1;go_wp2_with fail;((with_reducible refine HEQ.out.mono ?_));rintro e w5 ⟨rfl,n,rfl⟩;go_wp2_with fail;go_ret;exact ⟨rfl,below_drewN HB2.out n⟩
end
section
open Go.RowKit
attribute [local go_sem] ByteArray.mk_append_mk Qah Qai Qag
def Keep (C:Nat) (w w':World):Prop:=w.grownBy w' (some C)
theorem Keep.refl (C:Nat) (w:World):Keep C w w:=World.grownBy.refl w _
theorem Keep.trans {C:Nat} {a b c:World} (h:Keep C a b) (k:Keep C b c):Keep C a c:=World.grownBy.trans h k
theorem Keep.of {C:Nat} {w w':World} (h:Below w.heap.size w w'):Keep C w w':=⟨h.os,h.tape,h.output,h.size,fun k hk _=>h.block k hk⟩
theorem Keep.drewN {C:Nat} {a w:World} (h:Keep C a w) (n:Nat):Keep C a (w.drewN n):=⟨h.os,h.tape,h.output,h.size,h.block⟩
theorem Keep.setC {C:Nat} {a w:World} (h:Keep C a w) (j:Nat) (v:Value):Keep C a (w.setCell ⟨C,j,none⟩ v) :=
 h.trans ⟨rfl,rfl,rfl,by simp [World.setCell],fun k hk hne=>Below.heap_setCell _ _ _ _ (fun e=>hne (by rw [e]))⟩
theorem Keep.below {C B:Nat} {w w':World} (h:Keep C w w') (hB:B<=w.heap.size) (hC:B<=C):Below B w w' :=
 ⟨h.os,h.tape,h.output,h.size,fun k hk=>h.block k (by omega) (fun e=>by injection e with e;omega)⟩
abbrev QoR (tv:Value) (i:Int):Obj:=.cells #[tv,.int .i64 i] 95 (0,0)
theorem QlE {w:World} {b t:Nat} {c0 c1:Value} (h:w.heap[b]?=some (.cells #[c0,c1] t (0,0))):w.cell? ⟨b,0,none⟩=some c0/\w.cell? ⟨b,1,none⟩=some c1 :=
 ⟨cell_of_row w b 0 _ _ (0,0) h,cell_of_row w b 1 _ _ (0,0) h⟩
def CSt (w:World) (C:Nat):Prop:=∃ (a:Option Addr) (cap i:Nat) (l:List Int),w.heap[C]?=some (QoR (.slice a l.length cap) i)/\i<=l.length/\l.length<=140737488351232 /\
 (l≠[]->∃ b off,a=some ⟨b,off,none⟩/\b<C/\∀ k (h:k<l.length),w.cell? ⟨b,off+k,none⟩=some (.int .i64 l[k]))/\∀ x∈l,-9223372036854775808<=x/\x<=9223372036854775807
theorem CSt.keep {w w':World} {C:Nat} (h:CSt w C) (hk:Below w.heap.size w w'):CSt w' C:=by
 obtain ⟨a,cap,i,l,h1,h2,h3,h4,h5⟩:=h;refine ⟨a,cap,i,l,Qad h1 hk,h2,h3,fun hn=>?_,h5⟩;obtain ⟨b,off,ha,hb,hc⟩:=h4 hn;exact ⟨b,off,ha,hb,fun k hkl=>(hk.cell (p:=⟨b,off+k,none⟩) (World.block_lt_of_cell? w _ (hc k hkl))).trans (hc k hkl)⟩
theorem CSt.lt {w:World} {C:Nat} (h:CSt w C):C<w.heap.size:=by
 obtain ⟨a,cap,i,l,h1,_⟩:=h;exact lt_of_block h1
theorem CSt.grown {w w':World} {C:Nat} {row:Option Nat} (h:CSt w C) (hg:w.grownBy w' row) (hr:∀ g,row=some g->C<g):CSt w' C:=by
 obtain ⟨a,cap,i,l,h1,h2,h3,h4,h5⟩:=h;refine ⟨a,cap,i,l,QfK h1 hg (fun e=>by have:=hr C e.symm;omega),h2,h3,fun hn=>?_,h5⟩;obtain ⟨b,off,ha,hb,hc⟩:=h4 hn;exact ⟨b,off,ha,hb,fun k hkl=>hg.cell (hc k hkl) (fun e=>by have:=hr b e.symm;omega)⟩
theorem Keep.grown {C:Nat} {w a b:World} {row:Option Nat} (h:Keep C w a) (hg:a.grownBy b row) (hr:∀ g,row=some g->w.heap.size<=g):Keep C w b :=
 ⟨hg.os.trans h.os,hg.tape.trans h.tape,hg.output.trans h.output,Nat.le_trans h.size hg.size,fun k hk hne=>(hg.block k (Nat.lt_of_lt_of_le hk h.size) (fun e=>by have:=hr k e.symm;omega)).trans (h.block k hk hne)⟩
theorem Qk2 {w:World} {b C j:Nat} {p:Nat} {v u:Value} (h:w.cell? ⟨b,p,none⟩=some v) (hb:b≠C):(w.setCell ⟨C,j,none⟩ u).cell? ⟨b,p,none⟩=some v :=
 (World.cell?_of_block (a:=⟨b,p,none⟩) (heap_setCell_other w ⟨C,j,none⟩ b u hb)).trans h
theorem QmP {P:Program} {f:FuncId} {args:Array Value} {w:World} {n:Nat} {v:Value}
  (h:Calls P f args (w.drewN n) fun e w'=>e = .returned v/\w.drewN n=w'):Calls P f args (w.drewN n) fun e w''=>e = .returned v/\∃ m,w''=w.drewN m :=
 h.mono fun _ _ ⟨he,hm⟩=>⟨he,n,hm.symm⟩
theorem Qan (C:Nat) (n:Int) (w:World) (h:CSt w C) (hn:0<n) (hn2:n<=9223372036854775807) :
  Calls Tryz.prog 29 #[.pointer (some ⟨C,0,none⟩),.int .i64 n] w fun e w'=>∃ k:Nat,e = .returned (.int .i64 k)/\(k:Int)<n/\CSt w' C/\Keep C w w':=by
 have HC:=Za h;obtain ⟨a,cap,i,l,h1,h2,h3,h4,h5⟩:=h;obtain ⟨c0,c1⟩:=QlE h1;by_cases hlt:i<l.length
 ·have hi1:¬ (i:Int)>=(l.length:Int):=by omega
  have hi2:(i:Int)<(l.length:Int):=by omega
  obtain ⟨b,off,rfl,hbC,hc⟩:=h4 (by rintro rfl;simp at hlt);have hb:b≠C:=by omega
  have k0:=hc i hlt;have hx:=h5 l[i] (List.getElem_mem hlt);have HST:Hid (∀ q,CSt ((w.drewN q).setCell ⟨C,1,none⟩ (.int .i64 ((i:Int)+1))) C):=Za (fun q=>by
   refine ⟨some ⟨b,off,none⟩,cap,i+1,l,?_,by omega,h3,fun _=>⟨b,off,rfl,hbC,fun k hk=>?_⟩,h5⟩
   ·have:=heap_setCell_same (w.drewN q) _ 1 _ _ (.int .i64 ((i:Int)+1)) h1;rw [this];rfl
   ·exact Qk2 (w:=w.drewN q) (hc k hk) hb)
  obtain ⟨x,hxe⟩:∃ x,l[i]=x:=⟨_,rfl⟩;rw [hxe] at k0 hx;have HMD:=Za (fun w=>Qle x n w hn hn2);have hnn:=Qej x n hn;have hln:=Qiu x n hn;obtain ⟨z,hz⟩:∃ z:Nat,Qim x n=z:=⟨(Qim x n).toNat,by omega⟩;rw [hz] at HMD hln;have f1:=Qam h1 1;have d0:∀ q,((w.drewN q).setCell ⟨C,1,none⟩ (.int .i64 ((i:Int)+1))).cell? ⟨C,0,none⟩=some (.slice (some ⟨b,off,none⟩) l.length cap):=fun q=>by
   have:=heap_setCell_same (w.drewN q) _ 1 _ _ (.int .i64 ((i:Int)+1)) h1;exact (QlE (c0:=.slice (some ⟨b,off,none⟩) l.length cap) (c1:=.int .i64 ((i:Int)+1)) (by rw [this]<;>rfl)).1
  have d1:∀ q,((w.drewN q).setCell ⟨C,1,none⟩ (.int .i64 ((i:Int)+1))).cell? ⟨C,1,none⟩=some (.int .i64 ((i:Int)+1)):=fun q=>by
   have:=heap_setCell_same (w.drewN q) _ 1 _ _ (.int .i64 ((i:Int)+1)) h1;exact (QlE (c0:=.slice (some ⟨b,off,none⟩) l.length cap) (c1:=.int .i64 ((i:Int)+1)) (by rw [this]<;>rfl)).2
  have d2:∀ q,((w.drewN q).setCell ⟨C,1,none⟩ (.int .i64 ((i:Int)+1))).cell? ⟨b,off+i,none⟩=some (.int .i64 x):=fun q=>Qk2 (w:=w.drewN q) k0 hb;have HKP:Hid (∀ q,Keep C w ((w.drewN q).setCell ⟨C,1,none⟩ (.int .i64 ((i:Int)+1)))):=Za (fun q=>((Keep.refl C w).drewN q).setC 1 _);clear h1 h4 h5 hc hxe hz hnn;go_enter Tryz.func29,Tryz.ntmps29;go_upto_region 1 with fail;go_quiet (fail);go_wp2_with fail;go_upto_region 4 with fail;have e0:=d0 nq;have e1:=d1 nq;have e2:=d2 nq;have HS2:=Za (HST.out nq);have HK2:=Za (HKP.out nq);clear d0 d1 d2 HST HKP c0 c1 k0 f1;generalize (w.drewN nq).setCell ⟨C,1,none⟩ (.int .i64 ((i:Int)+1))=W at e0 e1 e2 HS2 HK2 |-;have hwr:IntKind.i64.wrap (i:Int)=(i:Int):=by rw [IntKind.wrap_i64];omega
  go_quiet ((go_at_call 24;with_reducible refine QmP (HMD.out _)));go_wp2_with fail;go_ret;exact ⟨z,rfl,hln,HS2.out.keep (below_drewN Zb _),HK2.out.drewN _⟩
 ·have hi1:(i:Int)>=(l.length:Int):=by omega
  clear h4 h5 h1;go_enter Tryz.func29,Tryz.ntmps29;go_upto_region 1 with fail;go_quiet (fail);go_wp2_with fail;go_ret;exact ⟨0,rfl,by omega,HC.out.keep (below_drewN Zb _),(Keep.refl C w).drewN _⟩
theorem Qj2 (C:Nat) (w:World) (h:CSt w C) :
  Calls Tryz.prog 30 #[.pointer (some ⟨C,0,none⟩)] w fun e w'=>∃ b,e = .returned (.bool b)/\CSt w' C/\Keep C w w':=by
 have HC:=Za h;obtain ⟨a,cap,i,l,h1,h2,h3,h4,h5⟩:=h;obtain ⟨c0,c1⟩:=QlE h1;clear h1 h4 h5;go_enter Tryz.func30,Tryz.ntmps30;go_upto_region 1 with fail;go_quiet (fail);go_wp2_with fail;go_ret;exact ⟨_,rfl,HC.out.keep (below_drewN Zb _),(Keep.refl C w).drewN _⟩
def Qqs (w:World) (v:Value) (l:List Int):Prop :=
 ∃ (a:Option Addr) (cap:Nat),v = .slice a l.length cap/\l.length<=140737488351232/\(l≠[]->∃ b off,a=some ⟨b,off,none⟩/\∀ k (h:k<l.length),w.cell? ⟨b,off+k,none⟩=some (.int .i64 l[k]))/\∀ x∈l,-9223372036854775808<=x/\x<=9223372036854775807
theorem QtU (v:Value) (l:List Int) (w:World) (h:Qqs w v l) :
  Calls Tryz.prog 26 #[v] w fun e w'=>e = .returned (.pointer (some ⟨w.heap.size,0,none⟩))/\CSt w' w.heap.size/\Below w.heap.size w w':=by
 obtain ⟨a,cap,rfl,hl,hc,hx⟩:=h;have HC:Hid (CSt (w.alloc (QoR (.slice a l.length cap) 0)) w.heap.size):=Za (by
  refine ⟨a,cap,0,l,heap_alloc_new _ _,Nat.zero_le _,hl,fun hn=>?_,hx⟩;obtain ⟨b,off,ha,hk⟩:=hc hn;have hb:b<w.heap.size:=World.block_lt_of_cell? w ⟨b,off+0,none⟩ (hk 0 (List.length_pos_iff.2 hn));exact ⟨b,off,ha,hb,fun k hkl=>(Below.cell (Zb.alloc Zc _) (p:=⟨b,off+k,none⟩) hb).trans (hk k hkl)⟩)
 have HB:Hid (Below w.heap.size w (w.alloc (QoR (.slice a l.length cap) 0))):=Za (Zb.alloc Zc _);clear hc hx;go_enter Tryz.func26,Tryz.ntmps26;go_wp2_with fail;go_ret;exact ⟨rfl,HC.out,HB.out⟩
abbrev Qsc:Obj:=.cells #[.string ⟨#[65]⟩,.string ⟨#[66]⟩,.string ⟨#[67]⟩,.string ⟨#[68,69,86,48]⟩,.string ⟨#[80,87,82,48]⟩,.string ⟨#[95,83,84,65]⟩,.string ⟨#[77,84,88]⟩,.string ⟨#[69,86,84]⟩,.string ⟨#[70,49]⟩,.string ⟨#[77]⟩] 9
def segL:List (List UInt8):=[[65],[66],[67],[68,69,86,48],[80,87,82,48],[95,83,84,65],[77,84,88],[69,86,84],[70,49],[77]]
theorem Qu5:∀ k:Fin 10,∃ x∈segL,segL[k.val]?=some x/\x.length<=4:=by decide +kernel
theorem Qsd {w:World} {A:Nat} (h:w.heap[A]?=some Qsc) (k:Nat) (hk:k<10):∃ x:List UInt8,x.length<=4/\w.cell? ⟨A,k,none⟩=some (.string ⟨x.toArray⟩):=by
 obtain ⟨x,_,h1,h2⟩:=Qu5 ⟨k,hk⟩;refine ⟨x,h2,?_⟩;rw [cell_of_row w A k _ _ (0,0) h];have e:(segL.map QbT).toArray[k]?=some (QbT x):=by
  have h1':segL[k]?=some x:=h1;rw [List.getElem?_toArray,List.getElem?_map,h1'];rfl
 exact e
theorem QtV (n:Int) (w:World) :
  Calls Tryz.prog 57 #[.int .i64 n] w fun e w'=>∃ s:List UInt8,e = .returned (.string ⟨s.toArray⟩)/\s.length<=4/\Below w.heap.size w w':=by
 have hA:(w.alloc Qsc).heap[w.heap.size]?=some Qsc:=heap_alloc_new _ _;have HB:Hid (Below w.heap.size w (w.alloc Qsc)):=Za (Zb.alloc Zc _);have hnn:=Qej n 10 (by omega);have hln:=Qiu n 10 (by omega);obtain ⟨z,hz⟩:∃ z:Nat,Qim n 10=z:=⟨(Qim n 10).toNat,by omega⟩;have HMD:=Za (fun w=>Qle n 10 w (by omega) (by omega));rw [hz] at HMD hln;obtain ⟨x,hx,c0⟩:=Qsd hA z (by omega);have hz10:(z:Int)<10:=hln;clear hA hnn hz;go_enter Tryz.func57,Tryz.ntmps57;go_upto_region 2 with fail;obtain ⟨A,hAe⟩:∃ A,w.heap.size=A:=⟨_,rfl⟩;have HAE:=Za hAe;rw [hAe] at c0;(try simp only [hAe]);clear hAe;generalize w.alloc Qsc=W at c0 HB |-;go_wp2_with fail;((with_reducible refine (HMD.out _).mono ?_));rintro e w1 ⟨rfl,rfl⟩;go_wp2_with fail;go_ret;exact ⟨x,rfl,hx,HB.out⟩
end
end Go.Proofs.YtoohondkpddmcaaGreatDoor
