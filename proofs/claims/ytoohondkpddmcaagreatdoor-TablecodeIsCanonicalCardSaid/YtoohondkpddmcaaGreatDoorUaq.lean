/- Si Sj Sk Sl Sm Sn -/
import Derived.Test.YtoohondkpddmcaaGreatDoorUzz
import Derived.Test.YtoohondkpddmcaaGreatDoorUap
namespace Go.Proofs.YtoohondkpddmcaaGreatDoor
set_option maxHeartbeats 32000000
set_option linter.unusedVariables false
set_option linter.unusedSimpArgs false
section
open Go.RowKit
attribute [local go_sem] ByteArray.mk_append_mk Qac Qad Qae
def Qc4 (kinds:List UInt8) (a:Nat):Prop:=a<=kinds.length/\(∀ j (h:j<kinds.length),QaQ kinds[j]=decide (a<=j))/\(kinds=[]\/0<a)/\kinds.length<=10
theorem QkX:∀ (kinds:List UInt8) (a:Nat),a<=kinds.length->(∀ j (h:j<kinds.length),QaQ kinds[j]=decide (a<=j))->(kinds.dropWhile fun k=>!QaQ k)=kinds.drop a
 | [],a,h,_=>by simp
 | k::ks,a,h,hk=>by
   have h0:=hk 0 (by simp);rw [List.getElem_cons_zero] at h0;cases a with
   | zero=>rw [List.dropWhile_cons,h0];rfl
   | succ a =>
     rw [List.dropWhile_cons,h0,List.drop_succ_cons,if_pos (by simp)];refine QkX ks a (by simpa using h) (fun j hj=>?_);have:=hk (j+1) (by simpa using hj);rw [List.getElem_cons_succ] at this;rw [this];simp
section
variable (sub:UInt8->List TokI->PR)
theorem Qte {kinds:List UInt8} {a:Nat} (hk:Qc4 kinds a) (ns:List Nd) (q:List TokI):QcZ sub (kinds.drop a) false ns q=if atT 6 q=true then .ok q.tail ns else .no q:=by
 by_cases h:a<kinds.length
 ·rw [List.drop_eq_getElem_cons h,QcZ,if_pos (by rw [hk.2.1 a h];simp)]
 ·rw [List.drop_eq_nil_of_le (by omega),QcZ]
theorem QrJ {kinds:List UInt8} {a j:Nat} (hk:Qc4 kinds a) (h:j<a) (hj:j<kinds.length) (first:Bool) (ns:List Nd) (q:List TokI) :
  QcZ sub (kinds.drop j) first ns q=if first=false/\atT 9 q=false then .no q else match sub kinds[j] (if first=false then q.tail else q) with
   | .no x=>.no x
   | .ok r1 n1=>QcZ sub (kinds.drop (j+1)) false (ns++n1) r1:=by
 rw [List.drop_eq_getElem_cons hj,QcZ,if_neg (by rw [hk.2.1 j hj];simp;omega)]<;>rfl
end
def QeL (n:Nd):PR->PR
 | .no x=>.no x
 | .ok r ns=>.ok r (n::ns)
end
section
open Go.RowKit
attribute [local go_sem] ByteArray.mk_append_mk Qac Qad Qae
theorem QjD {s:List UInt8} (h:QaY s=true):(QaF s).length<=32:=by
 have:=Qd6 h;omega
theorem QcG {w:World} {B:Nat} {v:Value} {l:List (List UInt8)} (h:w.ownsRow B 9 1 v l.length (l.map Qb4)):∃ a c,v = .slice a l.length c:=by
 rcases h.2 with ⟨rfl,h0⟩|⟨g,cap,cur,rfl,_⟩
 ·exact ⟨none,0,by rw [h0]⟩
 ·exact ⟨_,cap,rfl⟩
end
section
open Go.RowKit
attribute [local go_sem] ByteArray.mk_append_mk Qac Qad Qae
def kOk (kinds:List UInt8):Bool:=(List.range kinds.length).all fun j=>QaQ (kinds.getD j 0)==decide ((kinds.takeWhile fun k=>!QaQ k).length<=j)
theorem Qtf {kinds:List UInt8} (h:kOk kinds=true) (h0:kinds=[]\/QaQ (kinds.getD 0 0)=false) (hl:kinds.length<=10):Qc4 kinds (kinds.takeWhile fun k=>!QaQ k).length:=by
 refine ⟨(List.takeWhile_sublist _).length_le,fun j hj=>?_,?_,hl⟩
 ·have:=List.all_eq_true.1 h j (List.mem_range.2 hj);rw [beq_iff_eq] at this;rw [<- this,List.getD,List.getElem?_eq_getElem hj];rfl
 ·cases kinds with
  | nil=>exact .inl rfl
  | cons k ks =>
    right;rcases h0 with h0|h0
    ·cases h0
    ·rw [List.getD_cons_zero] at h0;rw [List.takeWhile_cons,h0];simp
def QkY (kinds:List UInt8):Bool:=kOk kinds&&(kinds==[]||!QaQ (kinds.getD 0 0))&&decide (kinds.length<=10)
theorem QpJ {kinds:List UInt8} (h:QkY kinds=true):∃ a,Qc4 kinds a:=by
 unfold QkY at h;simp only [Bool.and_eq_true,Bool.or_eq_true,beq_iff_eq,Bool.not_eq_true',decide_eq_true_eq] at h;exact ⟨_,Qtf h.1.1 h.1.2 h.2⟩
theorem tab_good:(∀ x∈declT,QkY x.2=true)/\(∀ x∈stmtT,QkY x.2=true)/\(∀ x∈exprT,QkY x.2=true):=by decide +kernel
theorem Qi2 {T:List (List UInt8×List UInt8)} (h:∀ x∈T,QkY x.2=true) (j:Nat):QkY (T.getD j ([],[])).2=true:=by
 by_cases hj:j<T.length
 ·rw [List.getD,List.getElem?_eq_getElem hj];exact h _ (List.getElem_mem hj)
 ·rw [List.getD,List.getElem?_eq_none (by omega)];decide
theorem Qmp (op:Int):∃ a,Qc4 (QaE op).2 a:=by
 refine QpJ ?_;unfold QaE;split
 ·exact Qi2 tab_good.1 _
 split
 ·exact Qi2 tab_good.2.1 _
 split
 ·exact Qi2 tab_good.2.2 _
 split
 ·decide
 split
 ·decide
 ·decide
theorem Qoc (a b:ByteArray) (w:World):(Instr.field 190 (.agg #[.string a,.string b]) 1).run Tryz.prog w = .ok (.string b) w:=by
 kernel_rfl
attribute [local go_sem] Qoc
end
section
open Go.RowKit
attribute [local go_sem] ByteArray.mk_append_mk Qac Qad Qae
end
section
open Go.RowKit
attribute [local go_sem] ByteArray.mk_append_mk Qac Qad Qae Qoc
def QkZ (w:World) (n:Nd) (e:Ending) (w':World):Prop:=∃ ks:List UInt8,e = .returned (.tuple #[.string ⟨ks.toArray⟩,.bool (QbH n).isSome])/\(∀ x,QbH n=some x->ks=x)/\Below w.heap.size w w'
theorem QuN (op:Int) (xw xk:List UInt8) (H:Hid (QaE op=(xw,xk))) (w:World) (m:Int) (hm:SynG m w):Calls Tryz.prog 182 #[.int .i64 op] w fun e w'=>e = .returned (.agg #[.string ⟨xw.toArray⟩,.string ⟨xk.toArray⟩])/\Below w.heap.size w w':=by
 have:=Qtd op w m hm;rw [H.out] at this;exact this
theorem Qqo (p:Int) (h0:0<=p) (h7:p<=7):List.take p.toNat ([101,101,101,101,101,101,101]:List UInt8)=List.replicate p.toNat 101:=by
 have:p=0\/p=1\/p=2\/p=3\/p=4\/p=5\/p=6\/p=7:=by omega
 rcases this with rfl|rfl|rfl|rfl|rfl|rfl|rfl|rfl<;>rfl
set_option maxRecDepth 100000 in
theorem Qtg (k n p:Int) (s:List UInt8) (w:World) (m:Int) (hm:SynG m w):Calls Tryz.prog 126 #[QbB k n s p] w (QkZ w ⟨k,n,s,p⟩):=by
 obtain ⟨X,hX⟩:∃ X,Hid (QbH ⟨k,n,s,p⟩=X):=⟨_,Za rfl⟩;have HBA:Hid (∀ o,Below w.heap.size w (w.alloc o)):=Za (fun o=>Zb.alloc Zc o);obtain ⟨e0,e1,e2,e3⟩:=Qaa (heap_alloc_new w (Qaj k n s p));have HE:=Za (heap_alloc_new w (Qaj k n s p));have HG:=Za (hm.below (HBA.out (Qaj k n s p)) hm.low);clear hm;unfold QbB QkZ;by_cases h5:k=5
 ·subst h5;by_cases h0:p<0
  ·have HX:Hid (X=none):=Za (by rw [<- hX.out];unfold QbH;simp only [if_true];rw [if_neg (by omega)]);go_enter Tryz.func126,Tryz.ntmps126;go_wp2_with fail;go_ret2;rw [hX.out,HX.out];exact ⟨_,rfl,fun x hx=>(by cases hx),HBA.out _⟩
  by_cases h7:7<p
  ·have HX:Hid (X=none):=Za (by rw [<- hX.out];unfold QbH;simp only [if_true];rw [if_neg (by omega)]);go_enter Tryz.func126,Tryz.ntmps126;go_wp2_with fail;go_ret2;rw [hX.out,HX.out];exact ⟨_,rfl,fun x hx=>(by cases hx),HBA.out _⟩
  ·have HX:Hid (X=some (List.replicate p.toNat 101)):=Za (by rw [<- hX.out];unfold QbH;simp only [if_true];rw [if_pos (by omega)]);have HT:=Za (Qqo p (by omega) (by omega));have h0':0<=p:=by omega
   have h7':p<=7:=by omega
   go_enter Tryz.func126,Tryz.ntmps126;go_wp2_with fail;go_ret2;rw [hX.out,HX.out];exact ⟨_,rfl,fun x hx=>(by injection hx with hx;rw [<- hx];exact HT.out),HBA.out _⟩
 have f5:(k==5)=false:=Zd h5;by_cases h33:k=33
 ·subst h33;by_cases h0:p<0
  ·have HX:Hid (X=none):=Za (by rw [<- hX.out];unfold QbH;simp only [show ((33:Int)=5)=False by decide,if_false,if_true];rw [if_neg (by omega)]);go_enter Tryz.func126,Tryz.ntmps126;go_wp2_with fail;go_ret2;rw [hX.out,HX.out];exact ⟨_,rfl,fun x hx=>(by cases hx),HBA.out _⟩
  by_cases h7:1<p
  ·have HX:Hid (X=none):=Za (by rw [<- hX.out];unfold QbH;simp only [show ((33:Int)=5)=False by decide,if_false,if_true];rw [if_neg (by omega)]);go_enter Tryz.func126,Tryz.ntmps126;go_wp2_with fail;go_ret2;rw [hX.out,HX.out];exact ⟨_,rfl,fun x hx=>(by cases hx),HBA.out _⟩
  ·have HX:Hid (X=some (List.replicate p.toNat 101)):=Za (by rw [<- hX.out];unfold QbH;simp only [show ((33:Int)=5)=False by decide,if_false,if_true];rw [if_pos (by omega)]);have HT:=Za (Qqo p (by omega) (by omega));have h0':0<=p:=by omega
   have h7':p<=1:=by omega
   have h7'':p<=7:=by omega
   go_enter Tryz.func126,Tryz.ntmps126;go_wp2_with fail;go_ret2;rw [hX.out,HX.out];exact ⟨_,rfl,fun x hx=>(by injection hx with hx;rw [<- hx];exact HT.out),HBA.out _⟩
 have f33:(k==33)=false:=Zd h33;by_cases h31:k=31/\p=3
 ·obtain ⟨rfl,rfl⟩:=h31;have HX:Hid (X=some [101,83,83]):=Za (by rw [<- hX.out]<;>rfl);go_enter Tryz.func126,Tryz.ntmps126;go_wp2_with fail;go_ret2;rw [hX.out,HX.out];exact ⟨_,rfl,fun x hx=>(by injection hx),HBA.out _⟩
 have HXF:Hid (X=if ((QaE k).2.length:Int)=p then some (QaE k).2 else none):=Za (by rw [<- hX.out];unfold QbH;simp only [];rw [if_neg h5,if_neg h33,if_neg h31]);obtain ⟨⟨xw,xk⟩,hf⟩:∃ x,QaE k=x:=⟨_,rfl⟩;have HF:=Za (fun w hm=>QuN k xw xk (Za hf) w m hm);rw [hf] at HXF;simp only at HXF;have f31:k=31->(p==3)=false:=fun h=>Zd (fun h2=>h31 ⟨h,h2⟩);obtain ⟨L,hL⟩:∃ L,xk.length=L:=⟨_,rfl⟩;have HL:=Za hL;by_cases hk:k=31
 ·have f31':=f31 hk;subst hk;clear h5 h33 h31 hf f31;go_enter Tryz.func126,Tryz.ntmps126;go_wp2_with fail;((with_reducible refine (HF.out _ HG.out).mono ?_));rintro e w2 ⟨rfl,hb⟩;have HB2:=Za (Qah (HBA.out (Qaj 31 n s p)) (by simp) hb);have HE2:=Za (Qab HE.out hb);clear hb e0 e1 e2 e3;obtain ⟨e0,e1,e2,e3⟩:=Qaa HE2.out;go_wp2_with fail;go_quiet (fail);go_wp2_with fail;go_ret2;rw [hX.out,HXF.out,HL.out];refine ⟨xk,?_,fun x hx=>?_,below_drewN HB2.out _⟩
  ·by_cases hp:(L:Int)=p<;>simp [hp]
  ·split at hx
   ·injection hx
   ·cases hx
 ·have f31':(k==31)=false:=Zd hk;clear h5 h33 h31 hf f31 hk;go_enter Tryz.func126,Tryz.ntmps126;go_wp2_with fail;((with_reducible refine (HF.out _ HG.out).mono ?_));rintro e w2 ⟨rfl,hb⟩;have HB2:=Za (Qah (HBA.out (Qaj k n s p)) (by simp) hb);have HE2:=Za (Qab HE.out hb);clear hb e0 e1 e2 e3;obtain ⟨e0,e1,e2,e3⟩:=Qaa HE2.out;go_wp2_with fail;go_quiet (fail);go_wp2_with fail;go_ret2;rw [hX.out,HXF.out,HL.out];refine ⟨xk,?_,fun x hx=>?_,below_drewN HB2.out _⟩
  ·by_cases hp:(L:Int)=p<;>simp [hp]
  ·split at hx
   ·injection hx
   ·cases hx
def QgM (k n:Int):Bool:=if k=1 then true else if k=6 then decide (n<8) else if k=7 then decide (n<7) else n==0
def QrK (k:Int) (s:List UInt8) (kd:UInt8):Bool:=if k=3\/k=5 then Qec kd s else if k=2 then decide (s.length<=255) else s==[]
theorem QpK (k n p:Int) (s:List UInt8) (kd:UInt8):Qa5 ⟨k,n,s,p⟩ kd=(QgM k n&&QrK k s kd):=rfl
set_option maxRecDepth 100000 in
theorem QpL (k n p:Int) (s:List UInt8) (kd:UInt8) (w:World) (m:Int) (hm:SynG m w) (hs:s.length<=4000000000) (hn:0<=n):Calls Tryz.prog 125 #[QbB k n s p,.int .u8 kd.toNat] w fun e w'=>e = .returned (.bool (Qa5 ⟨k,n,s,p⟩ kd))/\Below w.heap.size w w':=by
 have HBA:Hid (∀ o,Below w.heap.size w (w.alloc o)):=Za (fun o=>Zb.alloc Zc o);have HE:=Za (heap_alloc_new w (Qaj k n s p));have HG:=Za (hm.below (HBA.out (Qaj k n s p)) hm.low);have HB:=Za (HBA.out (Qaj k n s p));obtain ⟨e0,e1,e2,e3⟩:=Qaa HE.out;obtain ⟨X,hX⟩:∃ X,Hid (Qa5 ⟨k,n,s,p⟩ kd=X):=⟨_,Za rfl⟩;have HX0:Hid (X=(QgM k n&&QrK k s kd)):=Za (by rw [<- hX.out,QpK]);obtain ⟨P,hP⟩:∃ P,w.heap.size=P:=⟨_,rfl⟩;have HPE:=Za hP;clear hm HBA;unfold QbB;go_enter Tryz.func125,Tryz.ntmps125;go_upto_region 1 with fail;generalize w.alloc (Qaj k n s p)=W at *;simp only [hP] at HB HE e0 e1 e2 e3 |-;clear hP;go_upto_block 0 with fail;go_cut [12] (fun v wx=>Hid (QgM k n=true)/\W=wx)
 case first =>
  by_cases h1:k=1
  ·have f1:(k==1)=true:=by rw [h1];rfl
   have HI:Hid (QgM k n=true):=Za (by unfold QgM;rw [if_pos h1]);clear h1;go_wp2_with fail;go_meet;exact ⟨HI,rfl⟩
  have f1:(k==1)=false:=Zd h1;by_cases h6:k=6
  ·have f6:(k==6)=true:=by rw [h6];rfl
   by_cases h8:n<8
   ·have HI:Hid (QgM k n=true):=Za (by unfold QgM;rw [if_neg h1,if_pos h6];exact decide_eq_true h8);clear h1 h6;go_wp2_with fail;go_meet;exact ⟨HI,rfl⟩
   ·have HX:Hid (X=false):=Za (by rw [HX0.out,show QgM k n=false by unfold QgM;rw [if_neg h1,if_pos h6];exact decide_eq_false h8]<;>rfl);have h8':8<=n:=by omega
    clear h1 h6;go_wp2_with fail;go_ret;rw [hX.out,HX.out];exact ⟨rfl,by rw [HPE.out];exact HB.out⟩
  have f6:(k==6)=false:=Zd h6;by_cases h7:k=7
  ·have f7:(k==7)=true:=by rw [h7];rfl
   by_cases h8:n<7
   ·have HI:Hid (QgM k n=true):=Za (by unfold QgM;rw [if_neg h1,if_neg h6,if_pos h7];exact decide_eq_true h8);clear h1 h6 h7;go_wp2_with fail;go_meet;exact ⟨HI,rfl⟩
   ·have HX:Hid (X=false):=Za (by rw [HX0.out,show QgM k n=false by unfold QgM;rw [if_neg h1,if_neg h6,if_pos h7];exact decide_eq_false h8]<;>rfl);have h8':7<=n:=by omega
    clear h1 h6 h7;go_wp2_with fail;go_ret;rw [hX.out,HX.out];exact ⟨rfl,by rw [HPE.out];exact HB.out⟩
  have f7:(k==7)=false:=Zd h7;by_cases h8:n=0
  ·have f8:(n != 0)=false:=by rw [h8];rfl
   have HI:Hid (QgM k n=true):=Za (by unfold QgM;rw [if_neg h1,if_neg h6,if_neg h7,h8]<;>rfl);clear h1 h6 h7 h8;go_wp2_with fail;go_meet;exact ⟨HI,rfl⟩
  ·have f8:(n != 0)=true:=bne_iff_ne.2 h8;have HX:Hid (X=false):=Za (by rw [HX0.out,show QgM k n=false by unfold QgM;rw [if_neg h1,if_neg h6,if_neg h7];exact Zd h8]<;>rfl);clear h1 h6 h7 h8;go_wp2_with fail;go_ret;rw [hX.out,HX.out];exact ⟨rfl,by rw [HPE.out];exact HB.out⟩
 case rest =>
  obtain ⟨HI,rfl⟩:=hcut;obtain ⟨W,rfl⟩:∃ x:World,x=W:=⟨_,rfl⟩;have HX1:Hid (X=QrK k s kd):=Za (by rw [HX0.out,HI.out,Bool.true_and]);clear HX0 HI;by_cases h35:k=3\/k=5
  ·have HX2:Hid (X=Qec kd s):=Za (by rw [HX1.out];unfold QrK;rw [if_pos h35]);have HPA:=Za (Ql4 s m W HG.out.1 (by omega));have hPW:Hid (P<=W.heap.size):=Za (Nat.le_of_lt (lt_of_block HE.out));have f35:(k==3)=true\/((k==3)=false/\(k==5)=true):=by
    rcases h35 with h|h
    ·left;rw [h];rfl
    ·right;rw [h];exact ⟨rfl,rfl⟩
   clear h35 HX1;cases hok:QaY s with
   | false =>
     have HX:Hid (X=false):=Za (by rw [HX2.out];unfold Qec;rw [hok]<;>rfl);unfold Qct Qjt at HPA;rw [hok] at HPA;simp only [Bool.false_and,Bool.false_eq_true,if_false] at HPA;clear hok;rcases f35 with f3|⟨f3,f5⟩
     all_goals
      go_wp2_with fail;((with_reducible refine HPA.out.mono ?_));rintro e w1 ⟨v,rfl,hv,hb1⟩;obtain ⟨va,vc,rfl⟩:=QcG hv;have HB1:Hid (Below P w w1):=Za (HB.out.trans (hb1.mono hPW.out));have HS1:=Za hb1.size;clear hv hb1;go_wp2_with fail;go_ret;rw [hX.out,HX.out];exact ⟨rfl,by rw [HPE.out];exact HB1.out.alloc (Nat.le_trans hPW.out HS1.out) _⟩
   | true =>
     have hsl:=QjD hok;have HSG:Hid (Qfj s=(!QaO s&&(((Qbm s:Nat):Int)==0)&&(((QaF s).length:Int)==1))):=Za (by
      unfold Qfj
      congr 1
      ·congr 1
       rw [Bool.eq_iff_iff];simp<;>omega
      ·rw [Bool.eq_iff_iff];simp<;>omega)
     have HNB:Hid (X=(kd != 115||Qfj s)):=Za (by rw [HX2.out];unfold Qec;rw [hok]<;>rfl);unfold Qct Qjt at HPA;rw [hok] at HPA;obtain ⟨segs,hsegs⟩:∃ z,QaF s=z:=⟨_,rfl⟩;obtain ⟨root,hroot⟩:∃ z,QaO s=z:=⟨_,rfl⟩;obtain ⟨up,hup⟩:∃ z,((Qbm s:Nat):Int)=z:=⟨_,rfl⟩;simp only [Bool.true_and,if_true,hsegs,hroot,hup] at HPA HSG;rw [hsegs] at hsl;clear hok hsegs hroot hup HX2;have hkd:((kd.toNat:Int) != 115)=(kd != 115):=by rw [bne,bne];congr 1;exact Qao kd 115
     obtain ⟨kb,hkb⟩:∃ z,(kd != 115)=z:=⟨_,rfl⟩;rw [hkb] at hkd HNB;clear hkb;cases kb with
     | true =>
       have HX:Hid (X=true):=Za (by rw [HNB.out]<;>rfl);rcases f35 with f3|⟨f3,f5⟩
       all_goals
        go_wp2_with fail;((with_reducible refine HPA.out.mono ?_));rintro e w1 ⟨v,rfl,hv,hb1⟩;obtain ⟨va,vc,rfl⟩:=QcG hv;have HB1:Hid (Below P w w1):=Za (HB.out.trans (hb1.mono hPW.out));have HS1:=Za hb1.size;clear hv hb1;go_wp2_with fail;go_ret;rw [hX.out,HX.out];exact ⟨rfl,by rw [HPE.out];exact HB1.out.alloc (Nat.le_trans hPW.out HS1.out) _⟩
     | false =>
       have HX:Hid (X=Qfj s):=Za (by rw [HNB.out]<;>rfl);have HSI:=Za (fun va vc w=>QpI root up va segs.length vc w (by omega));rw [<- HSG.out,<- HX.out] at HSI;rcases f35 with f3|⟨f3,f5⟩
       all_goals
        go_wp2_with fail;((with_reducible refine HPA.out.mono ?_));rintro e w1 ⟨v,rfl,hv,hb1⟩;obtain ⟨va,vc,rfl⟩:=QcG hv;have HB1:Hid (Below P w w1):=Za (HB.out.trans (hb1.mono hPW.out));have HS1:=Za hb1.size;obtain ⟨d0,d1,d2⟩:=Qa4 (heap_alloc_new w1 (.cells #[.bool root,.int .i64 up,.slice va segs.length vc] 128));have HB2:Hid (Below P w (w1.alloc (.cells #[.bool root,.int .i64 up,.slice va segs.length vc] 128))):=Za (HB1.out.alloc (Nat.le_trans hPW.out HS1.out) _);have HS2:Hid (P<=(w1.alloc (.cells #[.bool root,.int .i64 up,.slice va segs.length vc] 128)).heap.size):=Za (by simp;have:=hPW.out;have:=HS1.out;omega);clear hv hb1;go_wp2_with fail;((with_reducible refine (HSI.out _ _ _).mono ?_));rintro e w3 ⟨rfl,hb3⟩;have HB3:Hid (Below P w w3):=Za (HB2.out.trans (hb3.mono HS2.out));clear hb3;go_wp2_with fail;go_ret;rw [hX.out];exact ⟨rfl,by rw [HPE.out];exact HB3.out⟩
  ·have f3:(k==3)=false:=Zd (fun h=>h35 (.inl h));have f5:(k==5)=false:=Zd (fun h=>h35 (.inr h));by_cases h2:k=2
   ·have f2:(k==2)=true:=by rw [h2];rfl
    have HX:Hid (X=decide (s.length<=255)):=Za (by rw [HX1.out];unfold QrK;rw [if_neg h35,if_pos h2]);have hd:decide ((s.length:Int)<=255)=decide (s.length<=255):=by rw [decide_eq_decide];omega
    clear h2 h35 HX1;go_wp2_with fail
    all_goals
     go_ret;rw [hX.out,HX.out];exact ⟨by first|rfl|(congr 2;symm;simp;omega)|(congr 2;simp;omega),by rw [HPE.out];exact HB.out⟩
   ·have f2:(k==2)=false:=Zd h2;have HX:Hid (X=s.isEmpty):=Za (by rw [HX1.out];unfold QrK;rw [if_neg h35,if_neg h2];cases s<;>rfl);clear h2 h35 HX1;go_wp2_with fail;go_ret;rw [hX.out,HX.out];exact ⟨rfl,by rw [HPE.out];exact HB.out⟩
end
section
open Go.RowKit
attribute [local go_sem] ByteArray.mk_append_mk Qac Qad Qae
def NSl (w:World) (v:Value) (l:List Nd):Prop :=
 (∃ (a:Option Addr) (cap:Nat),v = .slice a l.length cap/\(l≠[]->∃ b off,a=some ⟨b,off,none⟩/\∀ i (h:i<l.length),TAt w b (off+i * 4) l[i]))/\∀ t∈l,t.str.length<=4000000000/\0<=t.num
theorem TAt.below {w w':World} {b off:Nat} {t:TokI} (h:TAt w b off t) (hb:Below w.heap.size w w'):TAt w' b off t :=
 h.belowB hb (World.block_lt_of_cell? w ⟨b,off,none⟩ h.1)
theorem NSl.below {w w':World} {v:Value} {l:List Nd} (h:NSl w v l) (hb:Below w.heap.size w w'):NSl w' v l:=by
 obtain ⟨⟨a,cap,hv,hc⟩,hs⟩:=h;refine ⟨⟨a,cap,hv,fun hn=>?_⟩,hs⟩;obtain ⟨b,off,ha,hk⟩:=hc hn;exact ⟨b,off,ha,fun i hi=>(hk i hi).below hb⟩
theorem NodesI.sl {w:World} {B:Nat} {v:Value} {l:List Nd} (h:NodesI w B v l) (hs:∀ t∈l,t.str.length<=4000000000/\0<=t.num):NSl w v l:=by
 obtain ⟨a,c,rfl⟩:=h.form;refine ⟨⟨a,c,rfl,fun hn=>?_⟩,hs⟩;rcases h.2 with ⟨hv,h0⟩|⟨g,cap,cur,hv,hb,hg,hn2,hm,hs2,ht⟩
 ·exact absurd (List.eq_nil_of_length_eq_zero h0) hn
 ·injection hv with e1 e2 e3;refine ⟨g,0,e1,fun i hi=>?_⟩;obtain ⟨k0,k1,k2,k3⟩:=QsC l i hi;rw [<- ht] at k0 k1 k2 k3;rw [List.getElem?_take,if_pos (by omega)] at k0 k1 k2 k3;rw [Nat.zero_add];refine ⟨?_,?_,?_,?_⟩
  ·rw [cell_of_row w g _ cur _ (0,0) hg];simpa using k0
  ·rw [cell_of_row w g _ cur _ (0,0) hg];simpa using k1
  ·rw [cell_of_row w g _ cur _ (0,0) hg];simpa using k2
  ·rw [cell_of_row w g _ cur _ (0,0) hg];simpa using k3
def QeM (w:World) (x:Option Nat) (e:Ending) (w':World):Prop:=e = .returned (.tuple #[.int .i64 (x.getD 0:Nat),.bool x.isSome])/\Below w.heap.size w w'
def Qth (m:Int) (p:List Nd) (d:Nat) (dep:Int):Prop:=∀ (kd:UInt8) (i:Nat) (v:Value) (w:World),NSl w v p->SynG m w->i<=p.length ->
 Calls Tryz.prog 81 #[v,.int .i64 i,.int .u8 kd.toNat,.int .i64 dep] w (QeM w (Qan p d false kd i))
def Qw1 (m:Int) (p:List Nd) (d:Nat) (dep:Int):Prop:=∀ (kd:UInt8) (i:Nat) (v:Value) (w:World),NSl w v p->SynG m w->i<=p.length ->
 Calls Tryz.prog 127 #[v,.int .i64 i,.int .u8 kd.toNat,.int .i64 dep] w (QeM w (Qan p d (QaQ kd) kd i))
theorem Qod (p:List Nd) (d:Nat) (b:Bool) (kd:UInt8) (i:Nat) (h:p.length<=i):Qan p d b kd i=none:=by
 cases d with
 | zero=>rfl
 | succ d=>cases b<;>(rw [Qan,List.getElem?_eq_none h])
theorem Qti (m:Int) (p:List Nd) (hp:p.length<=1000000) (d:Nat) (dep:Int) (kd:UInt8) (i:Nat) (v:Value) (w:World) (hv:NSl w v p) (hi:p.length<=i) (hi2:i<=1000000) (hd : -1000<=dep/\dep<=1000) :
  Calls Tryz.prog 81 #[v,.int .i64 i,.int .u8 kd.toNat,.int .i64 dep] w (QeM w (Qan p d false kd i)):=by
 rw [Qod p d false kd i hi];obtain ⟨⟨a,cap,rfl,hc⟩,hs⟩:=hv;have hi':(p.length:Int)<=(i:Int):=by omega
 clear hc hs;go_enter Tryz.func81,Tryz.ntmps81;go_wp2_with fail;go_ret2;exact ⟨rfl,Zb⟩
theorem QuO (m:Int) (p:List Nd) (hp:p.length<=1000000) (dep:Int) (hd:32<dep) (kd:UInt8) (i:Nat) (v:Value) (w:World) (hv:NSl w v p) (hi:i<p.length) (hd2:dep<=1000) :
  Calls Tryz.prog 81 #[v,.int .i64 i,.int .u8 kd.toNat,.int .i64 dep] w (QeM w none):=by
 obtain ⟨⟨a,cap,rfl,hc⟩,hs⟩:=hv;have hi':(i:Int)<(p.length:Int):=by omega
 clear hc hs;go_enter Tryz.func81,Tryz.ntmps81;go_wp2_with fail;go_ret2;exact ⟨rfl,Zb⟩
theorem Qtj (m:Int) (p:List Nd) (hp:p.length<=1000000) (d:Nat) (dep:Int) (kd:UInt8) (hk:QaQ kd=true) (i:Nat) (v:Value) (w:World) (hv:NSl w v p) (hi:p.length<=i) (hi2:i<=1000000) (hd : -1000<=dep/\dep<=1000) :
  Calls Tryz.prog 127 #[v,.int .i64 i,.int .u8 kd.toNat,.int .i64 dep] w (QeM w (Qan p d true kd i)):=by
 rw [Qod p d true kd i hi];obtain ⟨⟨a,cap,rfl,hc⟩,hs⟩:=hv;have hi':(p.length:Int)<=(i:Int):=by omega
 have HI:=Za (Qio kd true (Za hk));clear hc hs hk;go_enter Tryz.func127,Tryz.ntmps127;go_wp2_with fail;((with_reducible refine (HI.out _).mono ?_));rintro e w1 ⟨rfl,rfl⟩;go_wp2_with fail;go_ret2;exact ⟨rfl,Zb⟩
theorem QuP (m:Int) (p:List Nd) (hp:p.length<=1000000) (dep:Int) (hd:32<dep) (kd:UInt8) (hk:QaQ kd=true) (i:Nat) (v:Value) (w:World) (hv:NSl w v p) (hi:i<p.length) (hd2:dep<=1000) :
  Calls Tryz.prog 127 #[v,.int .i64 i,.int .u8 kd.toNat,.int .i64 dep] w (QeM w none):=by
 obtain ⟨⟨a,cap,rfl,hc⟩,hs⟩:=hv;have hi':(i:Int)<(p.length:Int):=by omega
 have HI:=Za (Qio kd true (Za hk));clear hc hs hk;go_enter Tryz.func127,Tryz.ntmps127;go_wp2_with fail;((with_reducible refine (HI.out _).mono ?_));rintro e w1 ⟨rfl,rfl⟩;go_wp2_with fail;go_ret2;exact ⟨rfl,Zb⟩
theorem QrL {n:Nd} {ks:List UInt8} (h:QbH n=some ks):ks.length<=10:=by
 unfold QbH at h;split at h
 ·split at h
  ·injection h with h;rw [<- h,List.length_replicate];omega
  ·cases h
 split at h
 ·split at h
  ·injection h with h;rw [<- h,List.length_replicate];omega
  ·cases h
 split at h
 ·injection h with h;rw [<- h];decide
 split at h
 ·injection h with h;obtain ⟨a,ha⟩:=Qmp n.kind;rw [<- h];exact ha.2.2.2
 ·cases h
set_option maxRecDepth 100000 in
theorem QuQ (m:Int) (p:List Nd) (hp:p.length<=1000000) (d:Nat) (dep:Int) (hd0 : -1000<=dep) (hd1:dep<=32) (ih:Qw1 m p d (dep+1)) (kd:UInt8) (i:Nat) (v:Value) (w:World) (hv:NSl w v p) (hm:SynG m w) (hi:i<p.length) :
  Calls Tryz.prog 81 #[v,.int .i64 i,.int .u8 kd.toNat,.int .i64 dep] w (QeM w (Qan p (d+1) false kd i)):=by
 have IH:=Za ih;obtain ⟨X,hX⟩:∃ X,Hid (Qan p (d+1) false kd i=X):=⟨_,Za rfl⟩;have HX0:Hid (X=if Qar kd p[i].kind=true/\Qa5 p[i] kd=true then (match QbH p[i] with
  | none=>none
  | some ks=>QaT (fun k j=>Qan p d (QaQ k) k j) ks (i+1)) else none):=Za (by rw [<- hX.out,Qan,List.getElem?_eq_getElem hi]<;>rfl)
 have HV0:=Za hv;obtain ⟨hts,htn⟩:=hv.2 p[i] (List.getElem_mem hi);obtain ⟨a,cap,rfl,hc⟩:=hv.1;obtain ⟨g,off,rfl,hk⟩:=hc (by rintro rfl;simp at hi);obtain ⟨d0,d1,d2,d3⟩:=hk i hi;have hi':(i:Int)<(p.length:Int):=by omega
 clear hc hk hv ih;obtain ⟨T,hT⟩:∃ T,p[i]=T:=⟨_,rfl⟩;rw [hT] at d0 d1 d2 d3 hts htn HX0;obtain ⟨nk,nn,ns,np⟩:=T;simp only at d0 d1 d2 d3 hts htn HX0;obtain ⟨L,hL⟩:∃ L,p.length=L:=⟨_,rfl⟩;have HL:=Za hL;rw [hL] at hi hi' hp;have HBA:Hid (Below w.heap.size w (w.alloc (Qaj nk nn ns np))):=Za (Zb.alloc Zc _);have HE:=Za (heap_alloc_new w (Qaj nk nn ns np));have HG:=Za (hm.below HBA.out hm.low);have HV:=Za (HV0.out.below HBA.out);have hsz:w.heap.size<=(w.alloc (Qaj nk nn ns np)).heap.size:=HBA.out.size;obtain ⟨P,hP⟩:∃ P,w.heap.size=P:=⟨_,rfl⟩;have HPE:=Za hP;have HSZ:=Za hsz;clear hm hT HV0 hsz;go_enter Tryz.func81,Tryz.ntmps81;rw [hL] at HV |-;clear hL;go_upto_region 4 with fail;generalize w.alloc (Qaj nk nn ns np)=W at *;simp only [hP] at HBA HE HSZ |-;clear hP d0 d1 d2 d3;obtain ⟨e0,e1,e2,e3⟩:=Qaa HE.out;obtain ⟨ac,hac⟩:∃ z,Hid (Qar kd nk=z):=⟨_,Za rfl⟩;have HA:=Za (fun w=>Qv8 kd nk ac hac w);cases ac with
 | false =>
   have HX:Hid (X=none):=Za (by rw [HX0.out,if_neg (fun h=>by rw [hac.out] at h;cases h.1)]);go_wp2_with fail;((with_reducible refine (HA.out _).mono ?_));rintro e w1 ⟨rfl,rfl⟩;go_wp2_with fail;go_ret2;rw [hX.out,HX.out];exact ⟨rfl,by rw [HPE.out];exact HBA.out⟩
 | true =>
 obtain ⟨fb,hfb⟩:∃ z,Hid (Qa5 ⟨nk,nn,ns,np⟩ kd=z):=⟨_,Za rfl⟩;have HF:=Za (QpL nk nn np ns kd W m HG.out hts htn);rw [hfb.out] at HF;unfold QbB at HF;go_wp2_with fail;((with_reducible refine (HA.out _).mono ?_));rintro e w1 ⟨rfl,rfl⟩;go_wp2_with fail;((with_reducible refine HF.out.mono ?_));rintro e w2 ⟨rfl,hb2⟩;have HE2:=Za (Qab HE.out hb2);have HG2:=Za (HG.out.below hb2 HG.out.low);have HV2:=Za (HV.out.below hb2);have HB2:Hid (Below P w w2):=Za (HBA.out.trans (hb2.mono HSZ.out));have HS2:Hid (P<=w2.heap.size):=Za (Nat.le_trans HSZ.out hb2.size);clear hb2 e0 e1 e2 e3 HE HG HV HBA HSZ HF HA;cases fb with
 | false =>
   have HX:Hid (X=none):=Za (by rw [HX0.out,if_neg (fun h=>by rw [hfb.out] at h;cases h.2)]);go_wp2_with fail;go_ret2;rw [hX.out,HX.out];exact ⟨rfl,by rw [HPE.out];exact HB2.out⟩
 | true =>
 have HX1:Hid (X=match QbH ⟨nk,nn,ns,np⟩ with
  | none=>none
  | some ks=>QaT (fun k j=>Qan p d (QaQ k) k j) ks (i+1)):=Za (by rw [HX0.out,if_pos ⟨hac.out,hfb.out⟩])
 obtain ⟨e0,e1,e2,e3⟩:=Qaa HE2.out;have HK:=Za (Qtg nk nn np ns w2 m HG2.out);unfold QbB QkZ at HK;clear HX0;go_wp2_with fail;((with_reducible refine HK.out.mono ?_));rintro e w3 ⟨ks,rfl,hks,hb3⟩;have HG3:=Za (HG2.out.below hb3 HG2.out.low);have HV3:=Za (HV2.out.below hb3);have HB3:Hid (Below P w w3):=Za (HB2.out.trans (hb3.mono HS2.out));have HS3:Hid (P<=w3.heap.size):=Za (Nat.le_trans HS2.out hb3.size);clear hb3 e0 e1 e2 e3 HG2 HV2 HB2 HS2 HE2;cases hkk:QbH ⟨nk,nn,ns,np⟩ with
 | none =>
   have HX:Hid (X=none):=Za (by rw [HX1.out,hkk]);clear hks;simp only [Option.isSome_none];go_wp2_with fail;go_ret2;rw [hX.out,HX.out];exact ⟨rfl,by rw [HPE.out];exact HB3.out⟩
 | some ks2 =>
   obtain rfl:=hks _ hkk;have HX2:Hid (QaT (fun k j=>Qan p d (QaQ k) k j) ks (i+1)=X):=Za (by rw [HX1.out,hkk]);have hkl:=QrL hkk;obtain ⟨N,hN⟩:∃ N,ks.length=N:=⟨_,rfl⟩;have HN:=Za hN;rw [hN] at hkl;clear hks hkk HX1 HK;simp only [Option.isSome_some];go_wp2_with fail;go_loopw [13,49] (fun x y wr=>∃ (j q:Nat),x = .int .i64 q/\y = .int .i64 j/\j<=N/\q<=L/\Hid (QaT (fun k j=>Qan p d (QaQ k) k j) (ks.drop j) q=X)/\Hid (NSl wr (.slice (some ⟨g,off,none⟩) L cap) p)/\Hid (SynG m wr)/\Hid (Below P w wr)/\Hid (P<=wr.heap.size)) (fun _ y _=>N-(intOf y).toNat)
   case atStart=>exact ⟨0,i+1,by simp,rfl,by omega,by omega,HX2,HV3,HG3,HB3,HS3⟩
   case round =>
    clear HX2 HV3 HG3 HB3 HS3;obtain ⟨j,q,rfl,rfl,hj,hq,HXJ,HV,HG,HB,HS⟩:=hrel;obtain ⟨w4,rfl⟩:∃ y:World,y=wr:=⟨_,rfl⟩;by_cases hlt:j<N
    ·have hlt':(j:Int)<(N:Int):=by omega
     have hjk:j<ks.length:=by rw [hN];exact hlt
     obtain ⟨kj,hkj⟩:∃ x,ks[j]=x:=⟨_,rfl⟩;have HXK:Hid (X=match Qan p d (QaQ kj) kj q with|none=>none|some z=>QaT (fun k j=>Qan p d (QaQ k) k j) (ks.drop (j+1)) z):=Za (by
      rw [<- HXJ.out,List.drop_eq_getElem_cons hjk,QaT,hkj]<;>rfl)
     have HC:=Za (IH.out kj q _ w4 HV.out HG.out (by rw [HL.out];exact hq));unfold QeM at HC;cases hx:Qan p d (QaQ kj) kj q with
     | none =>
       rw [hx] at HC HXK;have HX:Hid (X=none):=HXK;clear hx HXJ HXK;simp only [Option.isSome_none,Option.getD_none] at HC;go_wp2_with fail;((with_reducible refine HC.out.mono ?_));rintro e w5 ⟨rfl,hb5⟩;have HB5:Hid (Below P w w5):=Za (HB.out.trans (hb5.mono HS.out));clear hb5;go_wp2_with fail;go_ret2;rw [hX.out,HX.out];exact ⟨rfl,by rw [HPE.out];exact HB5.out⟩
     | some z =>
       rw [hx] at HC HXK;have hz:=(Qau p d (QaQ kj) kj q z hx).2;rw [HL.out] at hz;have HX5:Hid (QaT (fun k j=>Qan p d (QaQ k) k j) (ks.drop (j+1)) z=X):=Za HXK.out.symm;clear hx HXJ HXK;simp only [Option.isSome_some,Option.getD_some] at HC;go_wp2_with fail;((with_reducible refine HC.out.mono ?_));rintro e w5 ⟨rfl,hb5⟩;have HB5:Hid (Below P w w5):=Za (HB.out.trans (hb5.mono HS.out));have HV5:=Za (HV.out.below hb5);have HG5:=Za (HG.out.below hb5 HG.out.low);have HS5:Hid (P<=w5.heap.size):=Za (Nat.le_trans HS.out hb5.size);clear hb5 HC;go_wp2_with fail;go_roundw
       case rel=>exact ⟨j+1,z,by go_num,by go_num,by omega,hz,HX5,HV5,HG5,HB5,HS5⟩
       case measure=>simp [intOf];omega
    ·obtain rfl:j=N:=by omega
     have HX5:Hid (X=some q):=Za (by rw [<- HXJ.out,List.drop_eq_nil_of_le (by rw [HN.out];exact Nat.le_refl _),QaT]);clear HXJ;go_wp2_with fail;go_ret2;rw [hX.out,HX5.out];exact ⟨rfl,by rw [HPE.out];exact HB.out⟩
set_option maxRecDepth 100000 in
theorem QuR (m:Int) (p:List Nd) (hp:p.length<=1000000) (d:Nat) (dep:Int) (hd0 : -1000<=dep) (hd1:dep<=32) (ih:Qth m p d (dep+1)) (kd:UInt8) (hkb:QaQ kd=true) (i:Nat) (v:Value) (w:World) (hv:NSl w v p) (hm:SynG m w) (hi:i<p.length) :
  Calls Tryz.prog 127 #[v,.int .i64 i,.int .u8 kd.toNat,.int .i64 dep] w (QeM w (Qan p (d+1) true kd i)):=by
 have IH:=Za ih;have HI:=Za (Qio kd true (Za hkb));obtain ⟨X,hX⟩:∃ X,Hid (Qan p (d+1) true kd i=X):=⟨_,Za rfl⟩;have HX0:Hid (X=if p[i].kind=4/\p[i].num=0/\p[i].str=[]/\0<=p[i].pos then Qbn (Qan p d false kd) p[i].pos.toNat (i+1) else none):=Za (by rw [<- hX.out,Qan,List.getElem?_eq_getElem hi]);have HV0:=Za hv;obtain ⟨a,cap,rfl,hc⟩:=hv.1;obtain ⟨g,off,rfl,hk⟩:=hc (by rintro rfl;simp at hi);obtain ⟨d0,d1,d2,d3⟩:=hk i hi;have hi':(i:Int)<(p.length:Int):=by omega
 clear hc hk hv ih hkb;obtain ⟨T,hT⟩:∃ T,p[i]=T:=⟨_,rfl⟩;rw [hT] at d0 d1 d2 d3 HX0;obtain ⟨nk,nn,ns,np⟩:=T;simp only at d0 d1 d2 d3 HX0;obtain ⟨L,hL⟩:∃ L,p.length=L:=⟨_,rfl⟩;have HL:=Za hL;rw [hL] at hi hi' hp;have HBA:Hid (Below w.heap.size w (w.alloc (Qaj nk nn ns np))):=Za (Zb.alloc Zc _);have HE:=Za (heap_alloc_new w (Qaj nk nn ns np));have HG:=Za (hm.below HBA.out hm.low);have HV:=Za (HV0.out.below HBA.out);have hsz:w.heap.size<=(w.alloc (Qaj nk nn ns np)).heap.size:=HBA.out.size;obtain ⟨P,hP⟩:∃ P,w.heap.size=P:=⟨_,rfl⟩;have HPE:=Za hP;have HSZ:=Za hsz;clear hm hT HV0 hsz;go_enter Tryz.func127,Tryz.ntmps127;rw [hL] at HV |-;clear hL;have hnl:decide (L<=i)=false:=decide_eq_false (by omega);have hnd:decide (32<dep)=false:=decide_eq_false (by omega);go_wp2_with fail;((with_reducible refine (HI.out _).mono ?_));rintro e w1 ⟨rfl,rfl⟩;go_upto_region 6 with fail;generalize w.alloc (Qaj nk nn ns np)=W at *;simp only [hP] at HBA HE HSZ |-;clear hP d0 d1 d2 d3;obtain ⟨e0,e1,e2,e3⟩:=Qaa HE.out;by_cases h4:nk=4/\nn=0/\ns=[]/\0<=np
 ·obtain ⟨rfl,rfl,rfl,hn0⟩:=h4;obtain ⟨N,rfl⟩:∃ N:Nat,np=N:=⟨np.toNat,by omega⟩;have HX2:Hid (Qbn (Qan p d false kd) N (i+1)=X):=Za (by rw [HX0.out,if_pos ⟨rfl,rfl,rfl,hn0⟩]<;>rfl);clear HX0;go_wp2_with fail;go_loopw [11,58] (fun x y wr=>∃ (j q:Nat),x = .int .i64 q/\y = .int .i64 j/\j<=N/\j<=q/\q<=L/\Hid (Qbn (Qan p d false kd) (N-j) q=X)/\Hid (NSl wr (.slice (some ⟨g,off,none⟩) L cap) p)/\Hid (SynG m wr)/\Hid (Below P w wr)/\Hid (P<=wr.heap.size)) (fun _ y _=>N-(intOf y).toNat)
  case atStart=>exact ⟨0,i+1,by simp,rfl,by omega,by omega,by omega,HX2,HV,HG,HBA,HSZ⟩
  case round =>
   clear HX2 HV HG HBA HSZ HE e0 e1 e2 e3;obtain ⟨j,q,rfl,rfl,hj,hjq,hq,HXJ,HV,HG,HB,HS⟩:=hrel;obtain ⟨w4,rfl⟩:∃ y:World,y=wr:=⟨_,rfl⟩;by_cases hlt:j<N
   ·have hlt':(j:Int)<(N:Int):=by omega
    have HXK:Hid (X=match Qan p d false kd q with|none=>none|some z=>Qbn (Qan p d false kd) (N-(j+1)) z):=Za (by
     rw [<- HXJ.out,show N-j=(N-(j+1))+1 by omega,Qbn]<;>rfl)
    have HC:=Za (IH.out kd q _ w4 HV.out HG.out (by rw [HL.out];exact hq));unfold QeM at HC;cases hx:Qan p d false kd q with
    | none =>
      rw [hx] at HC HXK;have HX:Hid (X=none):=HXK;clear hx HXJ HXK;simp only [Option.isSome_none,Option.getD_none] at HC;go_wp2_with fail;((with_reducible refine HC.out.mono ?_));rintro e w5 ⟨rfl,hb5⟩;have HB5:Hid (Below P w w5):=Za (HB.out.trans (hb5.mono HS.out));clear hb5;go_wp2_with fail;go_ret2;rw [hX.out,HX.out];exact ⟨rfl,by rw [HPE.out];exact HB5.out⟩
    | some z =>
      rw [hx] at HC HXK;have hz:=(Qau p d false kd q z hx).2;have hqz:=(Qau p d false kd q z hx).1;rw [HL.out] at hz;have HX5:Hid (Qbn (Qan p d false kd) (N-(j+1)) z=X):=Za HXK.out.symm;clear hx HXJ HXK;simp only [Option.isSome_some,Option.getD_some] at HC;go_wp2_with fail;((with_reducible refine HC.out.mono ?_));rintro e w5 ⟨rfl,hb5⟩;have HB5:Hid (Below P w w5):=Za (HB.out.trans (hb5.mono HS.out));have HV5:=Za (HV.out.below hb5);have HG5:=Za (HG.out.below hb5 HG.out.low);have HS5:Hid (P<=w5.heap.size):=Za (Nat.le_trans HS.out hb5.size);clear hb5 HC;have hjN:(j:Int)+1<=N:=by omega
      go_wp2_with fail;go_roundw
      case rel=>exact ⟨j+1,z,by go_num,by go_num,by omega,by omega,hz,HX5,HV5,HG5,HB5,HS5⟩
      case measure=>simp [intOf];omega
   ·obtain rfl:j=N:=by omega
    have HX5:Hid (X=some q):=Za (by rw [<- HXJ.out,Nat.sub_self,Qbn]);clear HXJ;go_wp2_with fail;go_ret2;rw [hX.out,HX5.out];exact ⟨rfl,by rw [HPE.out];exact HB.out⟩
 ·have HX:Hid (X=none):=Za (by rw [HX0.out,if_neg h4]);have HN4:=Za h4;clear HX0 h4;by_cases g1:nk=4
  ·subst g1;by_cases g2:nn=0
   ·subst g2;cases ns with
    | nil =>
      have g3:np<0:=by
       by_cases h:np<0
       ·exact h
       ·exact absurd ⟨rfl,rfl,rfl,by omega⟩ HN4.out
      go_wp2_with fail;go_ret2;rw [hX.out,HX.out];exact ⟨rfl,by rw [HPE.out];exact HBA.out⟩
    | cons c r =>
      go_wp2_with fail;go_ret2;rw [hX.out,HX.out];exact ⟨rfl,by rw [HPE.out];exact HBA.out⟩
   ·have f2:(nn != 0)=true:=bne_iff_ne.2 g2;clear g2;go_wp2_with fail;go_ret2;rw [hX.out,HX.out];exact ⟨rfl,by rw [HPE.out];exact HBA.out⟩
  ·have f1:(nk != 4)=true:=bne_iff_ne.2 g1;clear g1;go_wp2_with fail;go_ret2;rw [hX.out,HX.out];exact ⟨rfl,by rw [HPE.out];exact HBA.out⟩
theorem Qoe (m:Int) (p:List Nd) (d:Nat) (dep:Int) (he:Qth m p d dep) (kd:UInt8) (hkb:QaQ kd=false) (i:Nat) (v:Value) (w:World) (hv:NSl w v p) (hm:SynG m w) (hi:i<=p.length) :
  Calls Tryz.prog 127 #[v,.int .i64 i,.int .u8 kd.toNat,.int .i64 dep] w (QeM w (Qan p d false kd i)):=by
 have HC:=Za (he kd i v w hv hm hi);have HI:=Za (Qio kd false (Za hkb));unfold QeM at HC;obtain ⟨X,hX⟩:∃ X,Hid (Qan p d false kd i=X):=⟨_,Za rfl⟩;rw [hX.out] at HC;obtain ⟨x1,hx1⟩:∃ z:Nat,X.getD 0=z:=⟨_,rfl⟩;obtain ⟨x2,hx2⟩:∃ z,X.isSome=z:=⟨_,rfl⟩;rw [hx1,hx2] at HC;have H1:=Za hx1;have H2:=Za hx2;clear hv hm hkb hx1 hx2;go_enter Tryz.func127,Tryz.ntmps127;go_wp2_with fail;((with_reducible refine (HI.out _).mono ?_));rintro e w1 ⟨rfl,rfl⟩;go_wp2_with fail;((with_reducible refine HC.out.mono ?_));rintro e w2 ⟨rfl,hb⟩;have HB:=Za hb;clear hb;go_wp2_with fail;go_ret2;rw [hX.out];exact ⟨by rw [H1.out,H2.out];rfl,HB.out⟩
theorem Qof (m:Int) (p:List Nd) (hp:p.length<=1000000):∀ (d:Nat) (dep:Int),dep+d=33->-900<=dep->Qth m p d dep/\Qw1 m p d dep
 | 0,dep,h,h0=>by
   have he:Qth m p 0 dep:=fun kd i v w hv hm hi=>by
    rcases Nat.lt_or_ge i p.length with h2|h2
    ·exact QuO m p hp dep (by omega) kd i v w hv h2 (by omega)
    ·exact Qti m p hp 0 dep kd i v w hv h2 (by omega) (by omega)
   refine ⟨he,fun kd i v w hv hm hi=>?_⟩;cases hk:QaQ kd with
   | false=>exact Qoe m p 0 dep he kd hk i v w hv hm hi
   | true =>
     rcases Nat.lt_or_ge i p.length with h2|h2
     ·exact QuP m p hp dep (by omega) kd hk i v w hv h2 (by omega)
     ·exact Qtj m p hp 0 dep kd hk i v w hv h2 (by omega) (by omega)
 | d+1,dep,h,h0=>by
   obtain ⟨ie,ic⟩:=Qof m p hp d (dep+1) (by omega) (by omega);have he:Qth m p (d+1) dep:=fun kd i v w hv hm hi=>by
    rcases Nat.lt_or_ge i p.length with h2|h2
    ·exact QuQ m p hp d dep (by omega) (by omega) ic kd i v w hv hm h2
    ·exact Qti m p hp (d+1) dep kd i v w hv h2 (by omega) (by omega)
   refine ⟨he,fun kd i v w hv hm hi=>?_⟩;cases hk:QaQ kd with
   | false=>exact Qoe m p (d+1) dep he kd hk i v w hv hm hi
   | true =>
     rcases Nat.lt_or_ge i p.length with h2|h2
     ·exact QuR m p hp d dep (by omega) (by omega) ie kd hk i v w hv hm h2
     ·exact Qtj m p hp (d+1) dep kd hk i v w hv h2 (by omega) (by omega)
end
end Go.Proofs.YtoohondkpddmcaaGreatDoor
