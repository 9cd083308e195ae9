/- Mg Mh Mi Mj -/
import Derived.Test.YtoohondkpddmcaaGreatDoorYzz
import Derived.Test.YtoohondkpddmcaaGreatDoorYbj
import Derived.Test.YtoohondkpddmcaaGreatDoorYbi
import Derived.Test.YtoohondkpddmcaaGreatDoorYaz
namespace Go.Proofs.YtoohondkpddmcaaGreatDoor
set_option maxHeartbeats 32000000
set_option linter.unusedVariables false
set_option linter.unusedSimpArgs false
section
open Go.RowKit
attribute [local go_sem] ByteArray.mk_append_mk Qah Qai Qag
def Qr3 (k:UInt8):Prop:=k=68\/k=83\/k=70\/k=73\/k=80
theorem QjP {k:UInt8} (h:Qr3 k):QaZ k=true:=by
 rcases h with rfl|rfl|rfl|rfl|rfl<;>decide
set_option maxRecDepth 100000 in
theorem QmD (B b:Nat) (s:List UInt8) (f:Nat) (hs:s.length<=65536) (k:UInt8) (hk:Qr3 k) (w:World) (pos e:Nat) (inner:Bool) (o:List Nd) (ht:RdSt B b w s pos e inner o) (hp:pos<=e) (he:e<=s.length) (her:(Qbf (Qaw s pos e)).2.2≠0) :
  Calls Tryz.prog 213 #[.pointer (some ⟨b,0,none⟩),.int .u8 k.toNat] w (QbK B b w s e inner o (Qap s (Qas s f) inner e k pos)):=by
 have HX:Hid (Qap s (Qas s f) inner e k pos = .no pos (QdA inner (Qbf (Qaw s pos e)).2.2)):=Za (by
  unfold Qap;rw [if_pos (QjP hk)];unfold Qet;rw [if_neg her];unfold Qen QdA;by_cases h4:(Qbf (Qaw s pos e)).2.2=4
  ·rw [if_pos h4,if_pos (by omega)]
  ·rw [if_neg h4,if_neg (by omega)])
 rw [HX.out];have HR:=Za (QdW B b w s pos e inner o ht hp he (by omega));have HT:=Za ht;have hrl:=Qbs hp he;obtain ⟨rs,hrs⟩:∃ rs,Qaw s pos e=rs:=⟨_,rfl⟩;rw [hrs] at HR her hrl |-;have hln:=fun w=>Qd1 rs w (by omega);have h34:=Qqa rs her;obtain ⟨n,m,er,hq⟩:∃ n m er,Qbf rs=(n,m,er):=⟨_,_,_,rfl⟩;rw [hq] at her h34 |-;simp only [] at her h34 |-;have HLN:Hid (∀ w,Calls Tryz.prog 234 #[.string ⟨rs.toArray⟩] w fun e w'=>e = .returned (.tuple #[.int .i64 n,.int .i64 m,.int .i64 er])/\Below w.heap.size w w'):=Za (fun w=>by
  have h:=hln w;rw [hq] at h;exact h)
 have HC:=Za (fun w1 (h1:RdSt B b w1 s pos e inner o)=>QdV B b er pos (by omega) w1 s pos e inner o h1);have her':((er:Int) != 0)=true:=by rw [bne_iff_ne];omega
 clear HX hrs hln hq hrl hs hp he ht her h34;rcases hk with rfl|rfl|rfl|rfl|rfl
 all_goals
  go_enter Tryz.func213,Tryz.ntmps213;go_wp2_with fail;((with_reducible refine HR.out.mono ?_));rintro en w1 ⟨rfl,nq,rfl⟩;go_wp2_with fail;((with_reducible refine (HLN.out _).mono ?_));rintro en w2 ⟨rfl,hb2⟩;have HT2:=Za ((HT.out.below (below_drewN Zb nq)).below hb2);have HB2:Hid (Below B w w2):=Za ((below_drewN Zb nq).trans (hb2.mono (by simpa using HT.out.size)));have HC2:=Za (HC.out w2 HT2.out);obtain ⟨nv,h1,h2⟩:=HT2.out.ex;obtain ⟨c0,c1,c2,c3,c4,c5,c6⟩:=Qaj h1;clear hb2 HR HLN h1 h2;go_wp2_with fail;((with_reducible refine HC2.out.mono ?_));rintro en w3 ⟨rfl,hb3,hl3⟩;have HB3:=Za hb3;have HL3:=Za (HB2.out.trans hl3);clear hb3 hl3 HC HC2;go_wp2_with fail;go_end0;exact ⟨HL3.out,rfl,HB3.out⟩
set_option maxRecDepth 100000 in
theorem QlC (B b:Nat) (s:List UInt8) (f:Nat) (hs:s.length<=65536) (k:UInt8) (hk:Qr3 k) (w:World) (pos e:Nat) (inner:Bool) (o:List Nd) (ht:RdSt B b w s pos e inner o) (hp:pos<=e) (he:e<=s.length) (her:(Qbf (Qaw s pos e)).2.2=0) (hlg:(e:Int)-pos-(Qbf (Qaw s pos e)).2.1<(Qbf (Qaw s pos e)).1) :
  Calls Tryz.prog 213 #[.pointer (some ⟨b,0,none⟩),.int .u8 k.toNat] w (QbK B b w s e inner o (Qap s (Qas s f) inner e k pos)):=by
 have HX:Hid (Qap s (Qas s f) inner e k pos = .no pos (QdA inner 4)):=Za (by
  unfold Qap;rw [if_pos (QjP hk)];unfold Qet;rw [if_pos her,if_pos hlg];rfl)
 rw [HX.out];have HR:=Za (QdW B b w s pos e inner o ht hp he (by omega));have HT:=Za ht;have hrl:=Qbs hp he;obtain ⟨rs,hrs⟩:∃ rs,Qaw s pos e=rs:=⟨_,rfl⟩;rw [hrs] at HR her hlg hrl;have hln:=fun w=>Qd1 rs w (by omega);have hbk:=Qe9 rs;obtain ⟨n,m,er,hq⟩:∃ n m er,Qbf rs=(n,m,er):=⟨_,_,_,rfl⟩;rw [hq] at her hlg hbk;simp only [] at her hlg;subst her;obtain ⟨k1,k2,k3,k4⟩:=hbk n m rfl;rw [hrl] at k2;have HLN:Hid (∀ w,Calls Tryz.prog 234 #[.string ⟨rs.toArray⟩] w fun e w'=>e = .returned (.tuple #[.int .i64 n,.int .i64 m,.int .i64 0])/\Below w.heap.size w w'):=Za (fun w=>by
  have h:=hln w;rw [hq] at h;exact h)
 have HC:=Za (fun w1 (h1:RdSt B b w1 s pos e inner o)=>QdV B b 4 pos (.inr rfl) w1 s pos e inner o h1);obtain ⟨pz,hpz⟩:∃ z:Int,(pos:Int)=z:=⟨_,rfl⟩;obtain ⟨ez,hez⟩:∃ z:Int,(e:Int)=z:=⟨_,rfl⟩;obtain ⟨mz,hmz⟩:∃ z:Int,(m:Int)=z:=⟨_,rfl⟩;have HZ:=Za (show (pos:Int)=pz/\(e:Int)=ez from ⟨hpz,hez⟩);have b1:0<=pz:=by omega
 have b2:pz<=ez:=by omega
 have b3:ez<=70000:=by omega
 have b4:0<=mz:=by omega
 have b5:mz<=ez-pz:=by omega
 have b6:n>ez-pz-mz:=by omega
 rw [hmz] at HLN;clear HX hrs hln hq hrl hbk k1 k2 k3 k4 hs hp he ht hlg hpz hez hmz;rcases hk with rfl|rfl|rfl|rfl|rfl
 all_goals
  go_enter Tryz.func213,Tryz.ntmps213;go_wp2_with fail;((with_reducible refine HR.out.mono ?_));rintro en w1 ⟨rfl,nq,rfl⟩;go_wp2_with fail;((with_reducible refine (HLN.out _).mono ?_));rintro en w2 ⟨rfl,hb2⟩;have HT2:=Za ((HT.out.below (below_drewN Zb nq)).below hb2);have HB2:Hid (Below B w w2):=Za ((below_drewN Zb nq).trans (hb2.mono (by simpa using HT.out.size)));have HC2:=Za (fun q=>HC.out (w2.drewN q) (HT2.out.below (below_drewN Zb q)));obtain ⟨nv,h1,h2⟩:=HT2.out.ex;obtain ⟨c0,c1,c2,c3,c4,c5,c6⟩:=Qaj h1;rw [HZ.out.1] at c1;rw [HZ.out.2] at c2;rw [HZ.out.1] at HC2;clear hb2 HR HLN h1 h2;go_wp2_with fail;go_quiet (fail);go_wp2_with fail;((with_reducible refine (HC2.out _).mono ?_));rintro en w3 ⟨rfl,hb3,hl3⟩;have HB3:=Za hb3;have HL3:=Za ((below_drewN HB2.out _).trans hl3);clear hb3 hl3 HC HC2;go_wp2_with fail;go_end0;exact ⟨HL3.out,rfl,HB3.out⟩
end
section
open Go.RowKit
attribute [local go_sem] ByteArray.mk_append_mk Qah Qai Qag
theorem RdG.kids {B b:Nat} {w:World} {s:List UInt8} {pos e er at_:Int} {inner:Bool} {o ns:List Nd} {a n:Int} {x:List UInt8} {p:Int} (h:RdG B b w s pos e inner er at_ (o++⟨a,n,x,p⟩::ns)) :
  ∃ g c,w.heap[b]?=some (rdO s pos e inner (.slice (some ⟨g,0,none⟩) (o++⟨a,n,x,p⟩::ns).length c) er at_)/\w.cell? ⟨g,o.length * 4+3,none⟩=some (.int .i64 p)/\w.frozen? ⟨g,o.length * 4+3,none⟩=false /\
    (∀ u:Int,RdG B b (w.setCell ⟨g,o.length * 4+3,none⟩ (.int .i64 u)) s pos e inner er at_ (o++⟨a,n,x,u⟩::ns)/\Below B w (w.setCell ⟨g,o.length * 4+3,none⟩ (.int .i64 u)))/\w.cell? ⟨g,o.length * 4+2,none⟩=some (.string ⟨x.toArray⟩)/\w.frozen? ⟨g,o.length * 4+2,none⟩=false /\
    (∀ u:List UInt8,RdG B b (w.setCell ⟨g,o.length * 4+2,none⟩ (.string ⟨u.toArray⟩)) s pos e inner er at_ (o++⟨a,n,u,p⟩::ns)/\Below B w (w.setCell ⟨g,o.length * 4+2,none⟩ (.string ⟨u.toArray⟩))):=by
 obtain ⟨⟨nv,h1,h3⟩,h4,h5⟩:=h;have hne:=Qa6 h3 h1;obtain ⟨g,c,hnv,hB⟩:∃ g c,nv = .slice (some ⟨g,0,none⟩) (o++⟨a,n,x,p⟩::ns).length c/\B<=g:=by
  rcases h3.2 with ⟨_,h0⟩|⟨g,cap,cur,e,hb,_⟩
  ·simp at h0
  ·exact ⟨g,cap,e,hb⟩
 subst hnv;refine ⟨g,c,h1,?_,World.ownsRow.frozenAt h3 _,fun u=>?_,?_,World.ownsRow.frozenAt h3 _,fun u=>?_⟩
 ·rw [World.ownsRow.cellAt h3 _ (by simp;omega)];exact Qjt o ns a n x p
 ·obtain ⟨k1,k2⟩:=World.ownsRow.stored h3 (o.length * 4+3) (.int .i64 u);rw [Qlt] at k1;have hL:(o++⟨a,n,x,p⟩::ns).length=(o++(⟨a,n,x,u⟩:Nd)::ns).length:=by simp
  have hb:Below B w (w.setCell ⟨g,o.length * 4+3,none⟩ (.int .i64 u)):=Zb.setCell hB _;rw [hL] at k1 h1;exact ⟨⟨⟨_,QbB h1 _ _ (fun e=>hne (by simp [Value.ownBlock,e])),k1⟩,h4,Nat.le_trans h5 hb.size⟩,hb⟩
 ·rw [World.ownsRow.cellAt h3 _ (by simp;omega)];exact QkU o ns a n x p
 ·obtain ⟨k1,k2⟩:=World.ownsRow.stored h3 (o.length * 4+2) (.string ⟨u.toArray⟩);rw [Qmx] at k1;have hL:(o++⟨a,n,x,p⟩::ns).length=(o++(⟨a,n,u,p⟩:Nd)::ns).length:=by simp
  have hb:Below B w (w.setCell ⟨g,o.length * 4+2,none⟩ (.string ⟨u.toArray⟩)):=Zb.setCell hB _;rw [hL] at k1 h1;exact ⟨⟨⟨_,QbB h1 _ _ (fun e=>hne (by simp [Value.ownBlock,e])),k1⟩,h4,Nat.le_trans h5 hb.size⟩,hb⟩
theorem RdBad.open {B b q:Nat} {err:Int} {w:World} {o ns:List Nd} {n:Nd} (h:RdBad B b q err w (o++n::ns)):∃ s pos e inner ms,RdG B b w s pos e inner err q (o++n::(ns++ms))/\(err=3\/err=4):=by
 obtain ⟨s,pos,e,inner,nv,ms,h1,h2,h3,h4,h5⟩:=h;rw [List.append_assoc,List.cons_append] at h2;exact ⟨s,pos,e,inner,ms,⟨⟨nv,h1,h2⟩,h4,h5⟩,h3⟩
theorem RdBad0.lt {B b q:Nat} {err:Int} {w:World} {o:List Nd} (h:RdBad0 B b q err w o):b<w.heap.size:=by
 obtain ⟨s,pos,e,inner,nv,h1,_⟩:=h;exact lt_of_block h1
def QfE (w:World) (b n:Nat):Nat:=match w.cell? ⟨b,5,none⟩ with
 | some (.int _ z)=>if z=0 then (match w.cell? ⟨b,1,none⟩ with
   | some (.int _ p)=>n+1-p.toNat
   | _=>0) else 0
 | _=>0
theorem RdSt.meas {B b:Nat} {w:World} {s:List UInt8} {pos e:Nat} {inner:Bool} {o:List Nd} (h:RdSt B b w s pos e inner o) (n:Nat):QfE w b n=n+1-pos:=by
 obtain ⟨nv,h1,_⟩:=h.ex;unfold QfE;rw [(Qaj h1).2.2.2.2.2.1];simp only [if_true];rw [(Qaj h1).2.1];simp
theorem RdBad.meas {B b q:Nat} {err:Int} {w:World} {o:List Nd} (h:RdBad B b q err w o) (n:Nat):QfE w b n=0:=by
 obtain ⟨s,pos,e,inner,nv,ms,h1,_,h3,_⟩:=h;unfold QfE;rw [(Qaj h1).2.2.2.2.2.1];simp only [];rw [if_neg (by omega)]
theorem RdBad.err5 {B b q:Nat} {err:Int} {w:World} {o:List Nd} (h:RdBad B b q err w o):w.cell? ⟨b,5,none⟩=some (.int .i64 err)/\(err==0)=false/\(err != 0)=true:=by
 obtain ⟨s,pos,e,inner,nv,ms,h1,_,h3,_⟩:=h;refine ⟨(Qaj h1).2.2.2.2.2.1,?_,?_⟩
 ·rw [beq_eq_false_iff_ne];omega
 ·rw [bne_iff_ne];omega
theorem QjQ (B b:Nat) (most:Nat) (w:World) (q:Nat) (err:Int) (o:List Nd) (h:RdBad B b q err w o) :
  Calls Tryz.prog 212 #[.pointer (some ⟨b,0,none⟩),.int .i64 most] w fun en w'=>en = .returned (.int .i64 0)/\∃ n,w'=w.drewN n:=by
 obtain ⟨c5,h0,h1⟩:=h.err5;clear h;go_enter Tryz.func212,Tryz.ntmps212;go_wp2_with fail;go_ret;exact ⟨by simp,0,rfl⟩
end
section
open Go.RowKit
attribute [local go_sem] ByteArray.mk_append_mk Qah Qai Qag
def ElR (B b:Nat) (w:World) (s:List UInt8) (f:Nat) (k:UInt8) (P E:Nat) (o:List Nd) (X:DR) (wr:World):Prop :=
 (∃ (cc pq F:Nat) (M:List Nd),RdSt B b wr s pq E true (o++⟨4,0,[],(cc:Nat)⟩::M)/\X=QbV (fun q=>Qas s f k true q E) E F cc M pq/\(P<=pq/\pq<=E/\s.length<pq+F/\o.length+1+M.length<=pq/\cc<=pq)/\Below B w wr)
 \/ (∃ (q:Nat) (err:Int),RdBad B b q err wr o/\X = .no q err/\Below B w wr)
theorem ElR.next {B b:Nat} {w w8 w9:World} {s:List UInt8} {f:Nat} {k:UInt8} {P E cc pq F:Nat} {o M:List Nd} {X:DR} (hE:E<=s.length) (hf:s.length<P+f) (hpe:pq<E) (hX:X=QbV (fun q=>Qas s f k true q E) E F cc M pq)
  (hj:P<=pq/\pq<=E/\s.length<pq+F/\o.length+1+M.length<=pq/\cc<=pq) (hw:Below B w w8) (hb:Below B w8 w9) (hn:match Qas s f k true pq E with
  | .no q err=>RdBad B b q err w9 (o++⟨4,0,[],((cc+1:Nat):Int)⟩::M)
  | .ok q ns=>RdSt B b w9 s q E true (o++⟨4,0,[],((cc+1:Nat):Int)⟩::M++ns)) :
  ElR B b w s f k P E o X w9/\QfE w9 b s.length<s.length+1-pq:=by
 obtain ⟨j1,j2,j3,j4,j5⟩:=hj;obtain ⟨F',hF⟩:∃ F',F=F'+1:=⟨F-1,by omega⟩;have hdg:=QbW s f k true pq E (Nat.le_of_lt hpe) hE;rw [hF,Qie (by omega)] at hX;cases hY:Qas s f k true pq E with
 | no q err =>
   rw [hY] at hn hX;refine ⟨.inr ⟨q,err,RdBad.less hn,hX,hw.trans hb⟩,?_⟩;rw [RdBad.meas hn];omega
 | ok q ns =>
   rw [hY] at hn hX hdg;obtain ⟨d1,d2,d3,_⟩:=hdg;refine ⟨.inl ⟨cc+1,q,F',M++ns,?_,hX,⟨by omega,d2,by omega,by rw [List.length_append];omega,by omega⟩,hw.trans hb⟩,?_⟩
   ·have hn2:RdSt B b w9 s q E true (o++⟨4,0,[],((cc+1:Nat):Int)⟩::M++ns):=hn;rw [List.append_assoc,List.cons_append] at hn2;exact hn2
   ·rw [RdSt.meas hn];omega
set_option maxRecDepth 100000 in
theorem Qkj (B b:Nat) (s:List UInt8) (f:Nat) (hs:s.length<=65536) (hN:QnZ B b s f) (k:UInt8) (hk:Qr3 k) (w:World) (pos e:Nat) (inner:Bool) (o:List Nd) (ht:RdSt B b w s pos e inner o) (hp:pos<=e) (he:e<=s.length) (hf:s.length<pos+f) (ho:o.length<=pos) (her:(Qbf (Qaw s pos e)).2.2=0) (hlg:¬ (e:Int)-pos-(Qbf (Qaw s pos e)).2.1<(Qbf (Qaw s pos e)).1) :
  Calls Tryz.prog 213 #[.pointer (some ⟨b,0,none⟩),.int .u8 k.toNat] w (QbK B b w s e inner o (Qap s (Qas s f) inner e k pos)):=by
 have HI:=Za (show pos<=e/\e<=s.length/\s.length<pos+f/\o.length<=pos from ⟨hp,he,hf,ho⟩);have HSL:=Za hs;have HS:=Za hN;unfold QnZ at HS;obtain ⟨X,hX⟩:∃ X,Hid (Qap s (Qas s f) inner e k pos=X):=⟨_,Za rfl⟩;rw [hX.out];have hXd:=hX.out;unfold Qap at hXd;rw [if_pos (QjP hk)] at hXd;unfold Qet at hXd;rw [if_pos her,if_neg hlg] at hXd;have HR:=Za (QdW B b w s pos e inner o ht hp he (by omega));have HT:=Za ht;have hrl:=Qbs hp he;obtain ⟨rs,hrs⟩:∃ rs,Qaw s pos e=rs:=⟨_,rfl⟩;rw [hrs] at HR her hlg hrl hXd;have hln:=fun w=>Qd1 rs w (by omega);have hbk:=Qe9 rs;obtain ⟨n,m,er,hq⟩:∃ n m er,Qbf rs=(n,m,er):=⟨_,_,_,rfl⟩;rw [hq] at her hlg hbk hXd;simp only [] at her hlg hXd;subst her;obtain ⟨k1,k2,k3,k4⟩:=hbk n m rfl;rw [hrl] at k2;obtain ⟨N,rfl⟩:∃ N:Nat,n=N:=⟨n.toNat,by omega⟩;obtain ⟨nz,hnz⟩:∃ z:Int,(N:Int)=z:=⟨_,rfl⟩;obtain ⟨pz,hpz⟩:∃ z:Int,(pos:Int)=z:=⟨_,rfl⟩;obtain ⟨ez,hez⟩:∃ z:Int,(e:Int)=z:=⟨_,rfl⟩;obtain ⟨mz,hmz⟩:∃ z:Int,(m:Int)=z:=⟨_,rfl⟩;obtain ⟨kz,hkz⟩:∃ z:Int,(k.toNat:Int)=z:=⟨_,rfl⟩;have HLN:Hid (∀ w,Calls Tryz.prog 234 #[.string ⟨rs.toArray⟩] w fun e w'=>e = .returned (.tuple #[.int .i64 nz,.int .i64 mz,.int .i64 0])/\Below w.heap.size w w'):=Za (fun w=>by
  have h:=hln w;rw [hq] at h;rw [<- hnz,<- hmz];exact h)
 have HXX:Hid (X=QbV (fun q=>Qas s f k true q (pos+m+N)) (pos+m+N) (s.length+1) 0 [] (pos+m)):=Za (by rw [<- hXd,Int.toNat_natCast]);have HNK:Hid (∀ (w:World) (pos e:Nat) (inner:Bool) (o:List Nd),RdSt B b w s pos e inner o->pos<=e->e<=s.length->s.length<pos+f->o.length<=pos ->
  Calls Tryz.prog 111 #[.pointer (some ⟨b,0,none⟩),.int .u8 kz] w (QbK B b w s e inner o (Qas s f k inner pos e))):=Za (by rw [<- hkz];exact HS.out k)
 have HPN:Hid (pos+m+N<=e):=Za (by omega);have HM1:Hid (1<=m):=Za k3;obtain ⟨P,hP⟩:∃ P,pos+m=P:=⟨_,rfl⟩;have HPP:=Za hP;rw [hP] at HXX HPN;obtain ⟨E,hE⟩:∃ E,P+N=E:=⟨_,rfl⟩;have HEE:=Za hE;rw [hE] at HXX HPN;obtain ⟨qz,hqz⟩:∃ z:Int,(P:Int)=z:=⟨_,rfl⟩;have HZ:=Za (show (pos:Int)=pz/\(e:Int)=ez/\(P:Int)=qz/\qz=pz+mz/\(E:Int)=qz+nz from ⟨hpz,hez,hqz,by omega,by omega⟩);have b1:0<=pz:=by omega
 have b2:pz<=ez:=by omega
 have b3:ez<=70000:=by omega
 have b4:0<=mz:=by omega
 have b5:mz<=ez-pz:=by omega
 have b6:0<=nz:=by omega
 have b7:¬ nz>ez-pz-mz:=by omega
 have hkk:kz=68\/kz=83\/kz=70\/kz=73\/kz=80:=by
  rcases hk with rfl|rfl|rfl|rfl|rfl<;>simp at hkz<;>omega
 rw [hkz];clear hX hXd hrs hln hq hrl hbk k1 k2 k3 k4 hs hp he hf ho ht hlg hpz hez hmz hnz hqz hkz hP hE hN HS hk;rcases hkk with rfl|rfl|rfl|rfl|rfl
 all_goals
  go_enter Tryz.func213,Tryz.ntmps213;go_wp2_with fail;((with_reducible refine HR.out.mono ?_));rintro en w1 ⟨rfl,nq,rfl⟩;go_wp2_with fail;((with_reducible refine (HLN.out _).mono ?_));rintro en w2 ⟨rfl,hb2⟩;have HT2:=Za ((HT.out.below (below_drewN Zb nq)).below hb2);have HB2:Hid (Below B w w2):=Za ((below_drewN Zb nq).trans (hb2.mono (by simpa using HT.out.size)));obtain ⟨nv,h1,h2⟩:=HT2.out.ex;obtain ⟨c0,c1,c2,c3,c4,c5,c6⟩:=Qaj h1;rw [HZ.out.1] at c1;rw [HZ.out.2.1] at c2;clear hb2 HR HLN h1 h2;go_wp2_with fail;go_quiet (fail);generalize hW:w2.drewN _=W3;have HT3:Hid (RdSt B b W3 s pos e inner o):=Za (hW▸HT2.out.below (below_drewN Zb _));have HB3:Hid (Below B w W3):=Za (HB2.out.trans (hW▸below_drewN Zb _));clear hW HT2 HB2 c0 c1 c2 c3 c4 c5 c6;obtain ⟨nv,h1,h2⟩:=HT3.out.ex;obtain ⟨c0,c1,c2,c3,c4,c5,c6⟩:=Qaj h1;have f1:=Qam h1 1;rw [HZ.out.1] at c1;rw [HZ.out.2.1] at c2;clear h1 h2;go_upto_region 9 with fail;have HT4:Hid (RdSt B b (W3.setCell ⟨b,1,none⟩ (.int .i64 (pz+mz))) s P e inner o):=Za (by rw [<- HZ.out.2.2.2.1,<- HZ.out.2.2.1];exact HT3.out.setPos P);have HB4:=Za (HB3.out.trans (HT3.out.set 1 (.int .i64 (pz+mz))));generalize W3.setCell ⟨b,1,none⟩ (.int .i64 (pz+mz))=W4 at HT4 HB4 |-;clear HT3 HB3 c0 c1 c2 c3 c4 c5 c6 f1;obtain ⟨nv,h1,h2⟩:=HT4.out.ex;obtain ⟨c0,c1,c2,c3,c4,c5,c6⟩:=Qaj h1;rw [HZ.out.2.1] at c2;clear h1 h2;go_wp2_with fail;go_quiet (fail);generalize hW:W4.drewN _=W5;have HT5:Hid (RdSt B b W5 s P e inner o):=Za (hW▸HT4.out.below (below_drewN Zb _));have HB5:Hid (Below B w W5):=Za (HB4.out.trans (hW▸below_drewN Zb _));clear hW HT4 HB4 c0 c1 c2 c3 c4 c5 c6;obtain ⟨nv,h1,h2⟩:=HT5.out.ex;obtain ⟨c0,c1,c2,c3,c4,c5,c6⟩:=Qaj h1;have f2:=Qam h1 2;have f3:=Qam h1 3;rw [HZ.out.2.2.1] at c1;have b8:0<=qz:=by have:=HZ.out;omega
  have b9:qz+nz<=70000:=by have:=HZ.out;have:=HPN.out;have:=HI.out;have:=HSL.out;omega
  clear h1 h2;go_upto_region 11 with fail;have HS5:Hid (RdSt B b (W5.setCell ⟨b,2,none⟩ (.int .i64 (qz+nz))) s P E inner o):=Za (by rw [<- HZ.out.2.2.2.2];exact HT5.out.setEnd E);have HT6:=Za (HS5.out.setIn true);have HB6:=Za (HB5.out.trans ((HT5.out.set 2 (.int .i64 (qz+nz))).trans (HS5.out.set 3 (.bool true))));generalize (W5.setCell ⟨b,2,none⟩ (.int .i64 (qz+nz))).setCell ⟨b,3,none⟩ (.bool true)=W6 at HT6 HB6 |-;clear HT5 HB5 HS5 c0 c1 c2 c3 c4 c5 c6 f2 f3;obtain ⟨nv,h1,h2⟩:=HT6.out.ex;obtain ⟨na,nc,rfl⟩:=h2.form;obtain ⟨c0,c1,c2,c3,c4,c5,c6⟩:=Qaj h1;have hal:Below W6.heap.size W6 (W6.alloc (Qae 4 0 [] 0)):=Zb.alloc Zc _;have HO2:=Za (h2.below hal);have HP2:=Za (Qad h1 hal);have H1:=Za ((HT6.out.below hal).gen);have HNN:=Za (heap_alloc_new W6 (Qae 4 0 [] 0));have HB7:=Za (HB6.out.trans (hal.mono HT6.out.size));have HOL:Hid (o.length<=70000):=Za (by have:=HI.out;have:=HSL.out;omega);clear h1 h2 hal c0 c1 c2 c3 c5 c6;go_wp2_with (at_builtin;refine Qav rfl _ _ rfl B _ o rfl HO2.out W6.heap.size ⟨4,0,[],0⟩ rfl HNN.out (by have:=HOL.out;omega) H1.out.size ?_;intro v2 w8 ho hg;obtain ⟨a2,c2,rfl⟩:=NodesI.form ho;have HO3:=Za ho;have HG3:=Za hg;clear ho hg;have hb3:=(HG3.out.block b (lt_of_block HP2.out) (fun e=>Qa6 HO2.out HP2.out e.symm)).trans HP2.out;have f3:=Qam hb3 4;have c3:=(Qaj hb3).2.2.2.2.1;clear hb3);obtain ⟨hr,hlw⟩:=H1.out.grown HP2.out HO2.out HG3.out HO3.out;have HT9:=Za hr.st;have HB9:=Za (HB7.out.trans hlw);have hOl:(o++[(⟨4,0,[],0⟩:Nd)]).length=o.length+1:=by simp
  rw [hOl] at HT9 HB9;clear hOl;have HSTART:Hid (ElR B b w s f k P E o X (w8.setCell ⟨b,4,none⟩ (.slice a2 (o.length+1) c2))):=Za (.inl ⟨0,P,s.length+1,[],HT9.out,HXX.out,⟨Nat.le_refl _,by have:=HEE.out;omega,by omega,by have:=HI.out.2.2.2;have:=HM1.out;have:=HPP.out;simp;omega,Nat.zero_le _⟩,HB9.out⟩);generalize w8.setCell ⟨b,4,none⟩ (.slice a2 (o.length+1) c2)=w9 at HSTART |-;clear HT9 HB9 hr hlw HG3 HO3 HT6 HB6 HO2 HP2 H1 HNN HB7 HXX c3 f3 c4;go_loopw [117] (fun z wr=>∃ u:Value,u=z/\Hid (ElR B b w s f k P E o X wr)) (fun _ wr=>QfE wr b s.length)
  case atStart=>exact ⟨_,rfl,HSTART⟩
  case round =>
   obtain ⟨u,rfl,HREL⟩:=hrel;obtain ⟨w7,rfl⟩:∃ y:World,y=wr:=⟨_,rfl⟩;clear HSTART;rcases HREL.out with ⟨cc,pq,F,M,ht7,hx7,hj7,hb7⟩|⟨q,err,hbad,hx7,hb7⟩
   ·have HT7:=Za ht7;have HX:=Za hx7;have HJ:=Za hj7;have HBW:=Za hb7;have HM7:=Za (ht7.meas s.length);clear ht7 hx7 hj7 hb7 HREL;obtain ⟨nv7,h1,h2⟩:=HT7.out.ex;obtain ⟨c0,c1,c2,c3,c4,c5,c6⟩:=Qaj h1;obtain ⟨yz,hyz⟩:∃ z:Int,(pq:Int)=z:=⟨_,rfl⟩;obtain ⟨yE,hyE⟩:∃ z:Int,(E:Int)=z:=⟨_,rfl⟩;have HYE:=Za hyE;rw [hyz] at c1;rw [hyE] at c2;clear h1 h2;by_cases hlt:pq<E
    ·have hlt':yz<yE:=by omega
     have HLT:=Za hlt;clear hyz hyE hlt;go_wp2_with fail;go_quiet (fail);generalize hW:w7.drewN _=W;have HTW:Hid (RdSt B b W s pq E true (o++⟨4,0,[],(cc:Nat)⟩::M)):=Za (hW▸HT7.out.below (below_drewN Zb _));have HBX:Hid (Below B w W):=Za (HBW.out.trans (hW▸below_drewN Zb _));clear hW c0 c1 c2 c3 c4 c5 c6 HT7 HBW;obtain ⟨g,cp,hblk,hcell,hfr,hst,_⟩:=HTW.out.gen.kids;obtain ⟨d0,d1,d2,d3,d4,d5,d6⟩:=Qaj hblk;obtain ⟨cz,hcz⟩:∃ cz:Int,((cc:Nat):Int)=cz:=⟨_,rfl⟩;have HST:=Za (hst (cz+1));obtain ⟨nl,hnl⟩:∃ nl:Nat,(o++⟨4,0,[],((cc:Nat):Int)⟩::M).length=nl:=⟨_,rfl⟩;rw [hnl] at d4;have hnl2:(o.length:Int)<(nl:Int):=by rw [<- hnl];simp only [List.length_append,List.length_cons];omega
     have hcz0:0<=cz:=by omega
     have hcz1:cz<=70000:=by have:=HJ.out;have:=HPN.out;have:=HI.out;have:=HSL.out;omega
     rw [hcz] at hcell;have HT8:Hid (RdSt B b (W.setCell ⟨g,o.length * 4+3,none⟩ (.int .i64 (cz+1))) s pq E true (o++⟨4,0,[],((cc+1:Nat):Int)⟩::M)):=Za (by rw [show ((cc+1:Nat):Int)=cz+1 by omega];exact HST.out.1.st);have HB8:=Za (HBX.out.trans HST.out.2);clear hblk hst hnl hcz HST HTW HBX;go_upto_region 15 with fail;generalize W.setCell ⟨g,o.length * 4+3,none⟩ (.int .i64 (cz+1))=w8 at HT8 HB8 |-;clear d0 d1 d2 d3 d4 d5 d6 hcell hfr hnl2;have HC:=Za (HNK.out w8 pq E true _ HT8.out (Nat.le_of_lt HLT.out) (by have:=HPN.out;have:=HI.out;omega) (by have:=HJ.out;have:=HI.out;have:=HPP.out;omega) (by have:=HJ.out;simp only [List.length_append,List.length_cons];omega));go_wp2_with fail;((with_reducible refine HC.out.mono ?_));rintro en w9 ⟨hb9,rfl,hp9⟩;have HN:=Za (ElR.next (by have:=HPN.out;have:=HI.out;omega) (by have:=HI.out;have:=HPP.out;omega) HLT.out HX.out HJ.out HB8.out hb9 hp9);clear hb9 hp9 HC HT8 HB8;have HNEW:Hid (ElR B b w s f k P E o X w9):=Za HN.out.1;go_wp2_with fail;go_roundw
     case rel=>first|exact ⟨_,rfl,HNEW⟩|exact ⟨_,_,rfl,HNEW⟩|exact ⟨_,_,_,rfl,HNEW⟩
     case measure=>rw [HM7.out];exact HN.out.2
    ·have hlt':¬ yz<yE:=by omega
     have hpE:pq=E:=by have:=HJ.out;omega
     have HXX:Hid (X = .ok pq (⟨4,0,[],(cc:Nat)⟩::M)):=Za (by
      obtain ⟨F',hF⟩:∃ F',F=F'+1:=⟨F-1,by have:=HJ.out;have:=HPN.out;have:=HI.out;omega⟩;rw [HX.out,hF,QbV,if_pos hpE])
     clear hyz hyE hlt hpE HX HM7;go_wp2_with fail;go_quiet (fail);generalize hW:w7.drewN _=W;have HTW:Hid (RdSt B b W s pq E true (o++⟨4,0,[],(cc:Nat)⟩::M)):=Za (hW▸HT7.out.below (below_drewN Zb _));have HBX:Hid (Below B w W):=Za (HBW.out.trans (hW▸below_drewN Zb _));clear hW c0 c1 c2 c3 c4 c5 c6 HT7 HBW;obtain ⟨nv8,h1,h2⟩:=HTW.out.ex;obtain ⟨c0,c1,c2,c3,c4,c5,c6⟩:=Qaj h1;have f2:=Qam h1 2;have f3:=Qam h1 3;clear h1 h2;have HS5:Hid (RdSt B b (W.setCell ⟨b,2,none⟩ (.int .i64 ez)) s pq e true (o++⟨4,0,[],(cc:Nat)⟩::M)):=Za (by rw [<- HZ.out.2.1];exact HTW.out.setEnd e);have HT8:=Za (HS5.out.setIn inner);have HB8:=Za (HBX.out.trans ((HTW.out.set 2 (.int .i64 ez)).trans (HS5.out.set 3 (.bool inner))));go_wp2_with fail;go_end0;rw [HXX.out];exact ⟨HB8.out,rfl,HT8.out⟩
   ·have HBD:=Za hbad;have HX:=Za hx7;have HBW:=Za hb7;obtain ⟨c5,h0,h1⟩:=hbad.err5;clear hbad hx7 hb7 HREL;go_wp2_with fail;go_quiet (fail);go_wp2_with fail;go_end0;rw [HX.out];exact ⟨below_drewN HBW.out _,rfl,HBD.out.below (below_drewN Zb _)⟩
theorem QlD (B b:Nat) (s:List UInt8) (f:Nat) (hs:s.length<=65536) (hN:QnZ B b s f):ChR B b s f:=by
 intro k hk w pos e inner o ht hp he hf ho;by_cases hb:QaZ k=true
 ·have hk2:Qr3 k:=hk hb;by_cases her:(Qbf (Qaw s pos e)).2.2=0
  ·by_cases hlg:(e:Int)-pos-(Qbf (Qaw s pos e)).2.1<(Qbf (Qaw s pos e)).1
   ·exact QlC B b s f hs k hk2 w pos e inner o ht hp he her hlg
   ·exact Qkj B b s f hs hN k hk2 w pos e inner o ht hp he hf ho her hlg
  ·exact QmD B b s f hs k hk2 w pos e inner o ht hp he her
 ·exact Qki B b s f hN k (by simpa using hb) w pos e inner o ht hp he hf ho
end
section
open Go.RowKit
section
variable (s:List UInt8) (sub:UInt8->Bool->Nat->Nat->DR)
def QgB (op:Int) (inner:Bool) (e:Nat) (t:List UInt8) (N:Nat):DR->DR
 | .no q err=>.no q err
 | .ok q ns=>if op=31 then (match QaK s 1 inner q e with
   | .no err=>.no q err
   | .ok c=>match QaM (Qap s sub inner e) (List.replicate c 83) (q+1) with
     | .no r err=>.no r err
     | .ok r ms=>.ok r (⟨31,0,[],(2+c:Nat)⟩::(ns++ms)))
   else .ok q (⟨op,0,t,(N:Nat)⟩::ns)
theorem Qn7 (inner:Bool) (pos e:Nat):Qcb s sub 5 inner pos e=(match QbR s false inner pos e with
  | .no err=>.no pos err
  | .ok q t=>match QaK s 7 inner q e with
    | .no err=>.no q err
    | .ok c=>QgB s sub 5 inner e t c (QaM (Qap s sub inner e) (List.replicate c 101) (q+1))):=by
 unfold Qcb;rw [if_pos rfl];cases QbR s false inner pos e with
 | no err=>rfl
 | ok q t =>
   simp only [];cases QaK s 7 inner q e with
   | no err=>rfl
   | ok c =>
     simp only [];cases QaM (Qap s sub inner e) (List.replicate c 101) (q+1) with
     | no r err=>rfl
     | ok r ns=>unfold QgB QeO;simp only [];rw [if_neg (by decide)]
theorem Qqd (inner:Bool) (pos e:Nat):Qcb s sub 33 inner pos e=(match QaK s 1 inner pos e with
  | .no err=>.no pos err
  | .ok c=>QgB s sub 33 inner e [] c (QaM (Qap s sub inner e) (List.replicate c 101) (pos+1))):=by
 unfold Qcb;rw [if_neg (by decide),if_pos rfl];cases QaK s 1 inner pos e with
 | no err=>rfl
 | ok c =>
   simp only [];cases QaM (Qap s sub inner e) (List.replicate c 101) (pos+1) with
   | no r err=>rfl
   | ok r ns=>unfold QgB QeO;simp only [];rw [if_neg (by decide)]
theorem Qqe (op:Int) (h5:op≠5) (h33:op≠33) (inner:Bool) (pos e:Nat):Qcb s sub op inner pos e=QgB s sub op inner e [] (Qax op).2.length (QaM (Qap s sub inner e) (Qax op).2 pos):=by
 unfold Qcb;rw [if_neg h5,if_neg h33];by_cases h31:op=31
 ·subst h31;rw [if_pos rfl,show (Qax 31).2=[101,83] by decide];cases QaM (Qap s sub inner e) [101,83] pos with
  | no r err=>rfl
  | ok r ns=>unfold QgB;simp only [];rw [if_pos trivial];rfl
 ·rw [if_neg h31];cases QaM (Qap s sub inner e) (Qax op).2 pos with
  | no r err=>rfl
  | ok r ns=>unfold QgB QeO;simp only [];rw [if_neg h31]
end
theorem Qqf:∀ op∈Qew,op≠5->op≠33->(Qec (QhA op)).2.2=(Qax op).2/\(Qax op).2.length<=7:=by decide +kernel
theorem QuZ:∀ op∈Qew,∀ k∈(Qax op).2,QaZ k=true->k=68\/k=83\/k=70\/k=73\/k=80:=by decide +kernel
theorem Qr4:QjO 101:=fun h=>absurd h (by decide)
theorem Qvw:QjO 83:=fun _=>.inr (.inl rfl)
def KlR (B b:Nat) (w:World) (s:List UInt8) (f:Nat) (op:Int) (inner:Bool) (e:Nat) (o:List Nd) (t ks:List UInt8) (K:DR) (q:Nat) (wr:World):Prop :=
 (∃ (pq:Nat) (M:List Nd),RdSt B b wr s pq e inner (o++⟨op,0,t,0⟩::M)/\K=Qir M (QaM (Qap s (Qas s f) inner e) (ks.drop q) pq)/\(pq<=e/\s.length<pq+f/\o.length+1+M.length<=pq)/\Below B w wr)
 \/ (∃ (r:Nat) (err:Int),RdBad B b r err wr (o++[⟨op,0,t,0⟩])/\K = .no r err/\Below B w wr)
theorem KlR.next {B b:Nat} {w w8 w9:World} {s:List UInt8} {f:Nat} {op:Int} {inner:Bool} {e:Nat} {o M:List Nd} {t ks:List UInt8} {K:DR} {q pq:Nat} {k:UInt8} (he:e<=s.length) (hd:ks.drop q=k::ks.drop (q+1))
  (hK:K=Qir M (QaM (Qap s (Qas s f) inner e) (ks.drop q) pq)) (hj:pq<=e/\s.length<pq+f/\o.length+1+M.length<=pq) (hw:Below B w w8) (hb:Below B w8 w9) (hn:match Qap s (Qas s f) inner e k pq with
  | .no r err=>RdBad B b r err w9 (o++⟨op,0,t,0⟩::M)
  | .ok r ns=>RdSt B b w9 s r e inner (o++⟨op,0,t,0⟩::M++ns)):KlR B b w s f op inner e o t ks K (q+1) w9:=by
 obtain ⟨j1,j2,j3⟩:=hj;have hdg:=Qcg (fun k inner q e h1 h2=>QbW s f k inner q e h1 h2) (inner:=inner) he k pq j1;cases hY:Qap s (Qas s f) inner e k pq with
 | no r err =>
   rw [hY] at hn;refine .inr ⟨r,err,?_,?_,hw.trans hb⟩
   ·have:RdBad B b r err w9 ((o++[⟨op,0,t,0⟩])++M):=by rw [List.append_assoc];exact hn
    exact this.less
   ·rw [hK,hd];exact QjK hY M
 | ok r ns =>
   rw [hY] at hn hdg;obtain ⟨d1,d2,d3,_⟩:=hdg;refine .inl ⟨r,M++ns,?_,?_,⟨d2,by omega,by rw [List.length_append];omega⟩,hw.trans hb⟩
   ·have hn2:RdSt B b w9 s r e inner (o++⟨op,0,t,0⟩::M++ns):=hn;rw [List.append_assoc,List.cons_append] at hn2;exact hn2
   ·rw [hK,hd];exact QjL hY M
theorem KeptN.same {b:Nat} {w w':World} {s s':List UInt8} {p e r a p' e' r' a':Int} {i i':Bool} {nv nv':Value} (h:KeptN b w w') (h1:w.heap[b]?=some (rdO s p e i nv r a)) (h2:w'.heap[b]?=some (rdO s' p' e' i' nv' r' a')):nv'=nv:=by
 obtain ⟨s2,p2,e2,i2,r2,a2,j1⟩:=h _ _ _ _ _ _ _ h1;have a:=(Qaj h2).2.2.2.2.1;rw [(Qaj j1).2.2.2.2.1] at a;exact (Option.some.inj a).symm
def SameN (W:World) (b:Nat) (x:World):Prop:=x.cell? ⟨b,4,none⟩=W.cell? ⟨b,4,none⟩
theorem SameN.some (W:World) (b:Nat):(∃ x,SameN W b x)=True:=by simp only [eq_iff_iff,iff_true];exact ⟨W,rfl⟩
theorem SameN.all (W:World) (b:Nat) (p:Prop):(∀ x,SameN W b x->p)=p:=by
 simp only [eq_iff_iff];exact ⟨fun h=>h W rfl,fun h _ _=>h⟩
def KlE (B b:Nat) (w:World) (s:List UInt8) (f:Nat) (op:Int) (inner:Bool) (e:Nat) (o:List Nd) (t:List UInt8) (K:DR) (wr:World):Prop :=
 (∃ (pq:Nat) (M:List Nd),RdSt B b wr s pq e inner (o++⟨op,0,t,0⟩::M)/\K = .ok pq M/\(pq<=e/\s.length<pq+f/\o.length+1+M.length<=pq)/\Below B w wr)
 \/ (∃ (r:Nat) (err:Int),RdBad B b r err wr (o++[⟨op,0,t,0⟩])/\K = .no r err/\Below B w wr)
theorem KlR.done {B b:Nat} {w wr:World} {s:List UInt8} {f:Nat} {op:Int} {inner:Bool} {e:Nat} {o M:List Nd} {t ks:List UInt8} {K:DR} {q pq:Nat} (hq:ks.length<=q) (ht:RdSt B b wr s pq e inner (o++⟨op,0,t,0⟩::M))
  (hK:K=Qir M (QaM (Qap s (Qas s f) inner e) (ks.drop q) pq)) (hj:pq<=e/\s.length<pq+f/\o.length+1+M.length<=pq) (hw:Below B w wr):KlE B b w s f op inner e o t K wr:=by
 refine .inl ⟨pq,M,ht,?_,hj,hw⟩;rw [hK,List.drop_of_length_le hq,QaM];show DR.ok pq (M++[])=_;rw [List.append_nil]
end
end Go.Proofs.YtoohondkpddmcaaGreatDoor
