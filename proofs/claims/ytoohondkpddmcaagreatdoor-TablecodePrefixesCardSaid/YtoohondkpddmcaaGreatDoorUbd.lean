/- Mi Mj Mk -/
import Derived.Test.YtoohondkpddmcaaGreatDoorUzz
import Derived.Test.YtoohondkpddmcaaGreatDoorUbc
import Derived.Test.YtoohondkpddmcaaGreatDoorUau
namespace Go.Proofs.YtoohondkpddmcaaGreatDoor
set_option linter.unusedVariables false
set_option linter.unusedSimpArgs false
section
open Go.RowKit
attribute [local go_sem] ByteArray.mk_append_mk Qac Qad Qae
def ElR (B b:Nat) (w:World) (s:List UInt8) (f:Nat) (k:UInt8) (P E:Nat) (o:List Nd) (X:DR) (wr:World):Prop :=
 (∃ (cc pq F:Nat) (M:List Nd),RdSt B b wr s pq E true (o++⟨4,0,[],(cc:Nat)⟩::M)/\X=QbQ (fun q=>Qaw s f k true q E) E F cc M pq/\(P<=pq/\pq<=E/\s.length<pq+F/\o.length+1+M.length<=pq/\cc<=pq)/\Below B w wr)
 \/ (∃ (q:Nat) (err:Int),RdBad B b q err wr o/\X = .no q err/\Below B w wr)
theorem ElR.next {B b:Nat} {w w8 w9:World} {s:List UInt8} {f:Nat} {k:UInt8} {P E cc pq F:Nat} {o M:List Nd} {X:DR} (hE:E<=s.length) (hf:s.length<P+f) (hpe:pq<E) (hX:X=QbQ (fun q=>Qaw s f k true q E) E F cc M pq)
  (hj:P<=pq/\pq<=E/\s.length<pq+F/\o.length+1+M.length<=pq/\cc<=pq) (hw:Below B w w8) (hb:Below B w8 w9) (hn:match Qaw s f k true pq E with
  | .no q err=>RdBad B b q err w9 (o++⟨4,0,[],((cc+1:Nat):Int)⟩::M)
  | .ok q ns=>RdSt B b w9 s q E true (o++⟨4,0,[],((cc+1:Nat):Int)⟩::M++ns)) :
  ElR B b w s f k P E o X w9/\Qjb w9 b s.length<s.length+1-pq:=by
 obtain ⟨j1,j2,j3,j4,j5⟩:=hj;obtain ⟨F',hF⟩:∃ F',F=F'+1:=⟨F-1,by omega⟩;have hdg:=Qbj s f k true pq E (Nat.le_of_lt hpe) hE;rw [hF,QjJ (by omega)] at hX;cases hY:Qaw s f k true pq E with
 | no q err =>
   rw [hY] at hn hX;refine ⟨.inr ⟨q,err,RdBad.less hn,hX,hw.trans hb⟩,?_⟩;rw [RdBad.meas hn];omega
 | ok q ns =>
   rw [hY] at hn hX hdg;obtain ⟨d1,d2,d3,_⟩:=hdg;refine ⟨.inl ⟨cc+1,q,F',M++ns,?_,hX,⟨by omega,d2,by omega,by rw [List.length_append];omega,by omega⟩,hw.trans hb⟩,?_⟩
   ·have hn2:RdSt B b w9 s q E true (o++⟨4,0,[],((cc+1:Nat):Int)⟩::M++ns):=hn;rw [List.append_assoc,List.cons_append] at hn2;exact hn2
   ·rw [RdSt.meas hn];omega
end
section
open Go.RowKit
section
variable (s:List UInt8) (sub:UInt8->Bool->Nat->Nat->DR)
def Qw7 (op:Int) (inner:Bool) (e:Nat) (t:List UInt8) (N:Nat):DR->DR
 | .no q err=>.no q err
 | .ok q ns=>if op=31 then (match Qbf s 1 inner q e with
   | .no err=>.no q err
   | .ok c=>match QaU (Qat s sub inner e) (List.replicate c 83) (q+1) with
     | .no r err=>.no r err
     | .ok r ms=>.ok r (⟨31,0,[],(2+c:Nat)⟩::(ns++ms)))
   else .ok q (⟨op,0,t,(N:Nat)⟩::ns)
end
def KlR (B b:Nat) (w:World) (s:List UInt8) (f:Nat) (op:Int) (inner:Bool) (e:Nat) (o:List Nd) (t ks:List UInt8) (K:DR) (q:Nat) (wr:World):Prop :=
 (∃ (pq:Nat) (M:List Nd),RdSt B b wr s pq e inner (o++⟨op,0,t,0⟩::M)/\K=QjX M (QaU (Qat s (Qaw s f) inner e) (ks.drop q) pq)/\(pq<=e/\s.length<pq+f/\o.length+1+M.length<=pq)/\Below B w wr)
 \/ (∃ (r:Nat) (err:Int),RdBad B b r err wr (o++[⟨op,0,t,0⟩])/\K = .no r err/\Below B w wr)
theorem KlR.next {B b:Nat} {w w8 w9:World} {s:List UInt8} {f:Nat} {op:Int} {inner:Bool} {e:Nat} {o M:List Nd} {t ks:List UInt8} {K:DR} {q pq:Nat} {k:UInt8} (he:e<=s.length) (hd:ks.drop q=k::ks.drop (q+1))
  (hK:K=QjX M (QaU (Qat s (Qaw s f) inner e) (ks.drop q) pq)) (hj:pq<=e/\s.length<pq+f/\o.length+1+M.length<=pq) (hw:Below B w w8) (hb:Below B w8 w9) (hn:match Qat s (Qaw s f) inner e k pq with
  | .no r err=>RdBad B b r err w9 (o++⟨op,0,t,0⟩::M)
  | .ok r ns=>RdSt B b w9 s r e inner (o++⟨op,0,t,0⟩::M++ns)):KlR B b w s f op inner e o t ks K (q+1) w9:=by
 obtain ⟨j1,j2,j3⟩:=hj;have hdg:=QbR (fun k inner q e h1 h2=>Qbj s f k inner q e h1 h2) (inner:=inner) he k pq j1;cases hY:Qat s (Qaw s f) inner e k pq with
 | no r err =>
   rw [hY] at hn;refine .inr ⟨r,err,?_,?_,hw.trans hb⟩
   ·have:RdBad B b r err w9 ((o++[⟨op,0,t,0⟩])++M):=by rw [List.append_assoc];exact hn
    exact this.less
   ·rw [hK,hd];exact Qle hY M
 | ok r ns =>
   rw [hY] at hn hdg;obtain ⟨d1,d2,d3,_⟩:=hdg;refine .inl ⟨r,M++ns,?_,?_,⟨d2,by omega,by rw [List.length_append];omega⟩,hw.trans hb⟩
   ·have hn2:RdSt B b w9 s r e inner (o++⟨op,0,t,0⟩::M++ns):=hn;rw [List.append_assoc,List.cons_append] at hn2;exact hn2
   ·rw [hK,hd];exact Qlf hY M
theorem KeptN.same {b:Nat} {w w':World} {s s':List UInt8} {p e r a p' e' r' a':Int} {i i':Bool} {nv nv':Value} (h:KeptN b w w') (h1:w.heap[b]?=some (rdO s p e i nv r a)) (h2:w'.heap[b]?=some (rdO s' p' e' i' nv' r' a')):nv'=nv:=by
 obtain ⟨s2,p2,e2,i2,r2,a2,j1⟩:=h _ _ _ _ _ _ _ h1;have a:=(Qgc h2).2.2.2.2.1;rw [(Qgc j1).2.2.2.2.1] at a;exact (Option.some.inj a).symm
def SameN (W:World) (b:Nat) (x:World):Prop:=x.cell? ⟨b,4,none⟩=W.cell? ⟨b,4,none⟩
theorem SameN.some (W:World) (b:Nat):(∃ x,SameN W b x)=True:=by simp only [eq_iff_iff,iff_true];exact ⟨W,rfl⟩
theorem SameN.all (W:World) (b:Nat) (p:Prop):(∀ x,SameN W b x->p)=p:=by
 simp only [eq_iff_iff];exact ⟨fun h=>h W rfl,fun h _ _=>h⟩
def KlE (B b:Nat) (w:World) (s:List UInt8) (f:Nat) (op:Int) (inner:Bool) (e:Nat) (o:List Nd) (t:List UInt8) (K:DR) (wr:World):Prop :=
 (∃ (pq:Nat) (M:List Nd),RdSt B b wr s pq e inner (o++⟨op,0,t,0⟩::M)/\K = .ok pq M/\(pq<=e/\s.length<pq+f/\o.length+1+M.length<=pq)/\Below B w wr)
 \/ (∃ (r:Nat) (err:Int),RdBad B b r err wr (o++[⟨op,0,t,0⟩])/\K = .no r err/\Below B w wr)
theorem KlR.done {B b:Nat} {w wr:World} {s:List UInt8} {f:Nat} {op:Int} {inner:Bool} {e:Nat} {o M:List Nd} {t ks:List UInt8} {K:DR} {q pq:Nat} (hq:ks.length<=q) (ht:RdSt B b wr s pq e inner (o++⟨op,0,t,0⟩::M))
  (hK:K=QjX M (QaU (Qat s (Qaw s f) inner e) (ks.drop q) pq)) (hj:pq<=e/\s.length<pq+f/\o.length+1+M.length<=pq) (hw:Below B w wr):KlE B b w s f op inner e o t K wr:=by
 refine .inl ⟨pq,M,ht,?_,hj,hw⟩;rw [hK,List.drop_of_length_le hq,QaU];show DR.ok pq (M++[])=_;rw [List.append_nil]
end
section
open Go.RowKit
attribute [local go_sem] ByteArray.mk_append_mk Qac Qad Qae SameN.some SameN.all
def KsR (B b:Nat) (w:World) (s:List UInt8) (f:Nat) (op:Int) (inner:Bool) (e:Nat) (o:List Nd) (X:DR) (v:Value) (wx:World):Prop :=
 ∃ (t ks:List UInt8) (K:DR),v = .string ⟨ks.toArray⟩/\ks.length<=7/\Hid (∀ k∈ks,QtE k)/\Hid (X=Qw7 s (Qaw s f) op inner e t ks.length K)/\Hid (op=31->t=[]/\ks.length=2)/\Hid (KlR B b w s f op inner e o t ks K 0 wx)
theorem KsR.ok {B b:Nat} {w wx:World} {s:List UInt8} {f:Nat} {op:Int} {inner:Bool} {e pq:Nat} {o:List Nd} {X:DR} {t ks:List UInt8} (hk:ks.length<=7) (hko:∀ k∈ks,QtE k) (hX:X=Qw7 s (Qaw s f) op inner e t ks.length (QaU (Qat s (Qaw s f) inner e) ks pq)) (h31:op=31->t=[]/\ks.length=2)
  (ht:RdSt B b wx s pq e inner (o++[⟨op,0,t,0⟩])) (h1:pq<=e) (h2:s.length<pq+f) (h3:o.length+1<=pq) (hb:Below B w wx):KsR B b w s f op inner e o X (.string ⟨ks.toArray⟩) wx :=
 ⟨t,ks,_,rfl,hk,Za hko,Za hX,Za h31,Za (.inl ⟨pq,[],ht,by rw [Qos,List.drop_zero],⟨h1,h2,by simpa using h3⟩,hb⟩)⟩
theorem KsR.bad {B b:Nat} {w wx:World} {s:List UInt8} {f:Nat} {op:Int} {inner:Bool} {e q:Nat} {err:Int} {o:List Nd} {X:DR} {t:List UInt8} (hX:X = .no q err) (ht:RdBad B b q err wx (o++[⟨op,0,t,0⟩])) (hb:Below B w wx) (h31:op≠31):KsR B b w s f op inner e o X (.string ⟨([]:List UInt8).toArray⟩) wx :=
 ⟨t,[],.no q err,rfl,by simp,Za (fun k hk=>by simp at hk),Za (by rw [hX]<;>rfl),Za (fun h=>absurd h h31),Za (.inr ⟨q,err,ht,rfl,hb⟩)⟩
end
end Go.Proofs.YtoohondkpddmcaaGreatDoor
