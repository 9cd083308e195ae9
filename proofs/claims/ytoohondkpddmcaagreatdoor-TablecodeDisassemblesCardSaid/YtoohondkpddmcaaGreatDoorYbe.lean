/- Lq Lr Lz -/
import Derived.Test.YtoohondkpddmcaaGreatDoorYzz
import Derived.Test.YtoohondkpddmcaaGreatDoorYbc
import Derived.Test.YtoohondkpddmcaaGreatDoorYbd
import Derived.Test.YtoohondkpddmcaaGreatDoorYau
namespace Go.Proofs.YtoohondkpddmcaaGreatDoor
set_option maxHeartbeats 32000000
set_option linter.unusedVariables false
set_option linter.unusedSimpArgs false
section
open Go.RowKit
attribute [local go_sem] ByteArray.mk_append_mk Qah Qai Qag SameB.some SameB.all
theorem TSt.grown {B b:Nat} {w w':World} {s:List UInt8} {pos e bl:Nat} {o o':List Nd} {nv u:Value} (h:TSt B b w s pos e bl o) (hb:w.heap[b]?=some (tdO s pos e bl nv 0)) (hn:NodesI w B nv o) (hg:w.grownBy w' nv.ownBlock) (hu:NodesI w' B u o') :
  TSt B b (w'.setCell ⟨b,4,none⟩ u) s pos e bl o'/\Below B w (w'.setCell ⟨b,4,none⟩ u):=by
 have hB:Below B w w':=Zb.grown hg h.size (fun k hk=>QaN hn hk);have h1:w'.heap[b]?=some (tdO s pos e bl nv 0):=(hg.block b (lt_of_block hb) (fun e=>QcI hn hb e.symm)).trans hb;have hB2:Below B w' (w'.setCell ⟨b,4,none⟩ u):=Zb.setCell h.base _;exact ⟨⟨⟨u,heap_setCell_same _ _ 4 _ _ _ h1,QaA hu _ _ (QcI hu h1)⟩,h.base,Nat.le_trans h.size (hB.trans hB2).size⟩,hB.trans hB2⟩
set_option maxRecDepth 100000 in
theorem Qcx (B b:Nat) (k n p:Int) (x:List UInt8) (w:World) (s:List UInt8) (pos e bl:Nat) (o:List Nd) (h:TSt B b w s pos e bl o) (hl:o.length<=900000) :
  Calls Tryz.prog 106 #[.pointer (some ⟨b,0,none⟩),Qbz k n x p] w fun en w'=>en = .returned (.int .i64 o.length)/\TSt B b w' s pos e bl (o++[⟨k,n,x,p⟩])/\Below B w w':=by
 have H0:=Za (h.alloc (Qae k n x p));have HN0:=Za (heap_alloc_new w (Qae k n x p));have HB0:Hid (Below B w (w.alloc (Qae k n x p))):=Za (Zb.alloc h.size _);obtain ⟨nv,h1,h3⟩:=h.ex;obtain ⟨na,nc,rfl⟩:=h3.form;have hal:Below w.heap.size w (w.alloc (Qae k n x p)):=Zb.alloc Zc _;have HP1:=Za (Qad h1 hal);have HO1:=Za (h3.below hal);have HNE:Hid (∀ g,(Value.slice na o.length nc).ownBlock=some g->g<w.heap.size):=Za (fun g hg=>Qfn h3 hg);clear h h1 h3 hal;unfold Qbz;go_enter Tryz.func106,Tryz.ntmps106;go_upto_region 1 with fail;obtain ⟨P,hP⟩:∃ P,w.heap.size=P:=⟨_,rfl⟩;rw [hP] at HN0 HNE;simp only [hP];generalize w.alloc (Qae k n x p)=W at *;have k0:∀ y,SameB W b P y->y.cell? ⟨b,4,none⟩=some (.slice na o.length nc):=fun y hy=>(QaY (hy.1.trans HP1.out)).2.2.2.2.1;have q0:∀ y,SameB W b P y->y.cell? ⟨P,0,none⟩=some (.int .i64 k):=fun y hy=>(Qac (hy.2.trans HN0.out)).1;have q1:∀ y,SameB W b P y->y.cell? ⟨P,1,none⟩=some (.int .u64 n):=fun y hy=>(Qac (hy.2.trans HN0.out)).2.1;have q2:∀ y,SameB W b P y->y.cell? ⟨P,2,none⟩=some (.string ⟨x.toArray⟩):=fun y hy=>(Qac (hy.2.trans HN0.out)).2.2.1;have q3:∀ y,SameB W b P y->y.cell? ⟨P,3,none⟩=some (.int .i64 p):=fun y hy=>(Qac (hy.2.trans HN0.out)).2.2.2;have HPL:Hid (P<W.heap.size):=Za (lt_of_block HN0.out);have HBL:Hid (b<W.heap.size):=Za (lt_of_block HP1.out);clear hP;refine Qak (SameB W b P) 8 [.reads [0,1,2,3,4,5],.act 6,.act 7,.act 8,.act 9,.act 10] (by kernel_rfl) (by kernel_rfl) (by kernel_rfl) (by kernel_rfl) (by kernel_rfl) (fun _ _ d _ _ h=>by cases d<;>exact h) ⟨rfl,rfl⟩ ?_;refine Qaf ?_;simp only [Qab,pQ1,pQ2,pQ3,pQ4,pQ5,pQ6]
 repeat (go_big_quiet_step (first|(intro hb;rw [k0 _ hb];exact ⟨rfl,rfl⟩)|(intro hb;rw [q0 _ hb];simp only [Result.andThen];rw [q1 _ hb];simp only;rw [q2 _ hb];simp only;rw [q3 _ hb];exact ⟨rfl,rfl⟩)))
 refine wpQuiet_nil ?_;refine Qaa rfl ?_;simp only [Qab,pQ1,pQ2,pQ3,pQ4,pQ5,pQ6];go_wp2_with fail;have hg1:Grows W (W.alloc (Qae k n x p)).drew:=Below.drew (Zb.alloc Zc _);have H1:=Za (H0.out.below hg1);have HP2:=Za (Qad HP1.out hg1);have HPP:=Za (Qad HN0.out hg1);have HO2:=Za (HO1.out.below hg1);have HNN:Hid ((W.alloc (Qae k n x p)).drew.heap[W.heap.size]?=some (Qae k n x p)):=Za (heap_alloc_new W _);have HB2:Hid (Below B w (W.alloc (Qae k n x p)).drew):=Za (HB0.out.trans (hg1.mono H0.out.size));refine ⟨fun _=>⟨hg1.block b HBL.out,hg1.block P HPL.out⟩,?_⟩;have HS2:Hid (SameB W b P (W.alloc (Qae k n x p)).drew):=Za ⟨hg1.block b HBL.out,hg1.block P HPL.out⟩;generalize (W.alloc (Qae k n x p)).drew=V at *;clear hg1 H0 HN0 HP1 HO1 HB0 k0 q0 q1 q2 q3;refine Qaa rfl ?_;simp only [Qab,pQ1,pQ2,pQ3,pQ4,pQ5,pQ6];go_wp2_with (at_builtin;refine Qav rfl _ _ rfl B _ o rfl HO2.out W.heap.size ⟨k,n,x,p⟩ rfl HNN.out (by omega) H1.out.size ?_;intro v2 w2 ho hg;obtain ⟨a2,c2,rfl⟩:=NodesI.form ho;have HO3:=Za ho;have HG3:=Za hg;clear ho hg);refine ⟨fun _=>⟨(HG3.out.block b (lt_of_block HP2.out) (fun e=>QcI HO2.out HP2.out e.symm)).trans HS2.out.1,(HG3.out.block P (lt_of_block HPP.out) (fun e=>absurd (HNE.out P e.symm) (Nat.lt_irrefl _))).trans HS2.out.2⟩,?_⟩;refine Qaa rfl ?_;simp only [Qab,pQ1,pQ2,pQ3,pQ4,pQ5,pQ6];go_wp2_with fail;refine ⟨fun h=>absurd h (by decide),?_⟩;refine Qaa rfl ?_;simp only [Qab,pQ1,pQ2,pQ3,pQ4,pQ5,pQ6];go_wp2_with fail;refine ⟨fun h=>absurd h (by decide),?_⟩;refine Qaa rfl ?_;simp only [Qab,pQ1,pQ2,pQ3,pQ4,pQ5,pQ6];have hb3:=(HG3.out.block b (lt_of_block HP2.out) (fun e=>QcI HO2.out HP2.out e.symm)).trans HP2.out;have f3:=Qam hb3 4;have c3:=(QaY hb3).2.2.2.2.1;clear hb3;go_wp2_with fail;refine ⟨fun h=>absurd h (by decide),Qat ?_⟩;obtain ⟨hr,hlw⟩:=H1.out.grown HP2.out HO2.out HG3.out HO3.out;have HR:=Za hr;have HL:=Za hlw;have hb9:=(HG3.out.block b (lt_of_block HP2.out) (fun e=>QcI HO2.out HP2.out e.symm)).trans HP2.out;have c9:=(QaY (heap_setCell_same _ _ 4 _ _ (.slice a2 (o++[(⟨k,n,x,p⟩:Nd)]).length c2) hb9)).2.2.2.2.1;clear c3 f3 hr hlw HG3 HO3 HP2 HO2 H1 HPP HNN HS2 hb9;obtain ⟨O,hO⟩:∃ O,o++[(⟨k,n,x,p⟩:Nd)]=O:=⟨_,rfl⟩;have hOl:O.length=o.length+1:=by rw [<- hO];simp
 rw [hO] at HR HL c9;rw [hOl] at HR HL c9;have HO:=Za hO;clear hO hOl;generalize w2.setCell ⟨b,4,none⟩ (.slice a2 (o.length+1) c2)=W9 at *;go_wp2_with fail;go_ret;exact ⟨rfl,by rw [HO.out];exact HR.out,HB2.out.trans HL.out⟩
set_option maxRecDepth 100000 in
theorem QrX (B b:Nat) (k n p:Int) (x:List UInt8) (w:World) (q:Nat) (err:Int) (o:List Nd) (h:TBadO B b q err w o) (hl:o.length<=700000) :
  Calls Tryz.prog 106 #[.pointer (some ⟨b,0,none⟩),Qbz k n x p] w fun en w'=>en = .returned (.int .i64 o.length)/\QjH b q err w'/\Below B w w':=by
 have HN0:=Za (heap_alloc_new w (Qae k n x p));obtain ⟨s,e,bl,nv,h1,h3,hbs,hsz⟩:=h;have HB0:Hid (Below B w (w.alloc (Qae k n x p))):=Za (Zb.alloc hsz _);obtain ⟨na,nc,rfl⟩:=h3.form;have hal:Below w.heap.size w (w.alloc (Qae k n x p)):=Zb.alloc Zc _;have HP1:=Za (Qad h1 hal);have HO1:=Za (h3.below hal);have HNE:Hid (∀ g,(Value.slice na o.length nc).ownBlock=some g->g<w.heap.size):=Za (fun g hg=>Qfn h3 hg);have HSZ:=Za (Nat.le_trans hsz hal.size);have HBS:=Za hbs;clear h1 h3 hal hsz hbs;unfold Qbz;go_enter Tryz.func106,Tryz.ntmps106;go_upto_region 1 with fail;obtain ⟨P,hP⟩:∃ P,w.heap.size=P:=⟨_,rfl⟩;rw [hP] at HN0 HNE;simp only [hP];generalize w.alloc (Qae k n x p)=W at *;have k0:∀ y,SameB W b P y->y.cell? ⟨b,4,none⟩=some (.slice na o.length nc):=fun y hy=>(QaY (hy.1.trans HP1.out)).2.2.2.2.1;have q0:∀ y,SameB W b P y->y.cell? ⟨P,0,none⟩=some (.int .i64 k):=fun y hy=>(Qac (hy.2.trans HN0.out)).1;have q1:∀ y,SameB W b P y->y.cell? ⟨P,1,none⟩=some (.int .u64 n):=fun y hy=>(Qac (hy.2.trans HN0.out)).2.1;have q2:∀ y,SameB W b P y->y.cell? ⟨P,2,none⟩=some (.string ⟨x.toArray⟩):=fun y hy=>(Qac (hy.2.trans HN0.out)).2.2.1;have q3:∀ y,SameB W b P y->y.cell? ⟨P,3,none⟩=some (.int .i64 p):=fun y hy=>(Qac (hy.2.trans HN0.out)).2.2.2;have HPL:Hid (P<W.heap.size):=Za (lt_of_block HN0.out);have HBL:Hid (b<W.heap.size):=Za (lt_of_block HP1.out);clear hP;refine Qak (SameB W b P) 8 [.reads [0,1,2,3,4,5],.act 6,.act 7,.act 8,.act 9,.act 10] (by kernel_rfl) (by kernel_rfl) (by kernel_rfl) (by kernel_rfl) (by kernel_rfl) (fun _ _ d _ _ h=>by cases d<;>exact h) ⟨rfl,rfl⟩ ?_;refine Qaf ?_;simp only [Qab,pQ1,pQ2,pQ3,pQ4,pQ5,pQ6]
 repeat (go_big_quiet_step (first|(intro hb;rw [k0 _ hb];exact ⟨rfl,rfl⟩)|(intro hb;rw [q0 _ hb];simp only [Result.andThen];rw [q1 _ hb];simp only;rw [q2 _ hb];simp only;rw [q3 _ hb];exact ⟨rfl,rfl⟩)))
 refine wpQuiet_nil ?_;refine Qaa rfl ?_;simp only [Qab,pQ1,pQ2,pQ3,pQ4,pQ5,pQ6];go_wp2_with fail;have hg1:Grows W (W.alloc (Qae k n x p)).drew:=Below.drew (Zb.alloc Zc _);have HSZ2:=Za (Nat.le_trans HSZ.out hg1.size);have HP2:=Za (Qad HP1.out hg1);have HPP:=Za (Qad HN0.out hg1);have HO2:=Za (HO1.out.below hg1);have HNN:Hid ((W.alloc (Qae k n x p)).drew.heap[W.heap.size]?=some (Qae k n x p)):=Za (heap_alloc_new W _);have HB2:Hid (Below B w (W.alloc (Qae k n x p)).drew):=Za (HB0.out.trans (hg1.mono HSZ.out));refine ⟨fun _=>⟨hg1.block b HBL.out,hg1.block P HPL.out⟩,?_⟩;have HS2:Hid (SameB W b P (W.alloc (Qae k n x p)).drew):=Za ⟨hg1.block b HBL.out,hg1.block P HPL.out⟩;generalize (W.alloc (Qae k n x p)).drew=V at *;clear hg1 HSZ HN0 HP1 HO1 HB0 k0 q0 q1 q2 q3;refine Qaa rfl ?_;simp only [Qab,pQ1,pQ2,pQ3,pQ4,pQ5,pQ6];go_wp2_with (at_builtin;refine Qav rfl _ _ rfl B _ o rfl HO2.out W.heap.size ⟨k,n,x,p⟩ rfl HNN.out (by omega) HSZ2.out ?_;intro v2 w2 ho hg;obtain ⟨a2,c2,rfl⟩:=NodesI.form ho;have HO3:=Za ho;have HG3:=Za hg;clear ho hg);refine ⟨fun _=>⟨(HG3.out.block b (lt_of_block HP2.out) (fun e=>QcI HO2.out HP2.out e.symm)).trans HS2.out.1,(HG3.out.block P (lt_of_block HPP.out) (fun e=>absurd (HNE.out P e.symm) (Nat.lt_irrefl _))).trans HS2.out.2⟩,?_⟩;refine Qaa rfl ?_;simp only [Qab,pQ1,pQ2,pQ3,pQ4,pQ5,pQ6];go_wp2_with fail;refine ⟨fun h=>absurd h (by decide),?_⟩;refine Qaa rfl ?_;simp only [Qab,pQ1,pQ2,pQ3,pQ4,pQ5,pQ6];go_wp2_with fail;refine ⟨fun h=>absurd h (by decide),?_⟩;refine Qaa rfl ?_;simp only [Qab,pQ1,pQ2,pQ3,pQ4,pQ5,pQ6];have hb3:=(HG3.out.block b (lt_of_block HP2.out) (fun e=>QcI HO2.out HP2.out e.symm)).trans HP2.out;have f3:=Qam hb3 4;have c3:=(QaY hb3).2.2.2.2.1;clear hb3;go_wp2_with fail;refine ⟨fun h=>absurd h (by decide),Qat ?_⟩;have hb9:=(HG3.out.block b (lt_of_block HP2.out) (fun e=>QcI HO2.out HP2.out e.symm)).trans HP2.out;have HR:=Za (heap_setCell_same _ _ 4 _ _ (.slice a2 (o++[(⟨k,n,x,p⟩:Nd)]).length c2) hb9);have HL:Hid (Below B V (w2.setCell ⟨b,4,none⟩ (.slice a2 (o++[(⟨k,n,x,p⟩:Nd)]).length c2))):=Za ((Zb.grown HG3.out HSZ2.out (fun k hk=>QaN HO2.out hk)).setCell HBS.out _);have c9:=(QaY HR.out).2.2.2.2.1;clear c3 f3 HG3 HO3 HP2 HO2 HPP HNN HS2 hb9;obtain ⟨O,hO⟩:∃ O,o++[(⟨k,n,x,p⟩:Nd)]=O:=⟨_,rfl⟩;have hOl:O.length=o.length+1:=by rw [<- hO];simp
 rw [hO] at HR HL c9;rw [hOl] at HR HL c9;clear hO hOl;generalize w2.setCell ⟨b,4,none⟩ (.slice a2 (o.length+1) c2)=W9 at *;go_wp2_with fail;go_ret;exact ⟨rfl,⟨_,_,_,_,HR.out⟩,HB2.out.trans HL.out⟩
set_option maxRecDepth 100000 in
theorem QfZ (B b:Nat) (len:Nat) (w:World) (s:List UInt8) (pos e bl:Nat) (o:List Nd) (h:TSt B b w s pos e bl o) (hl:pos+len<=1000000) :
  Calls Tryz.prog 107 #[.pointer (some ⟨b,0,none⟩),.int .i64 len,.int .i64 0] w fun en w'=>en = .returned (.bool true)/\TSt B b w' s (pos+len) e bl o/\Below B w w':=by
 have HB:=Za (h.set 1 (.int .i64 (pos+len:Nat)));have HS:=Za (h.setPos (pos+len));obtain ⟨nv,h1,h2⟩:=h.ex;obtain ⟨c0,c1,c2,c3,c4,c5⟩:=QaY h1;have f1:=Qam h1 1;have hc:((pos+len:Nat):Int)=(pos:Int)+(len:Int):=by omega
 rw [hc] at HB HS;have hl2:(pos:Int)+(len:Int)<=1000000:=by omega
 clear h h1 h2 hc hl;go_enter Tryz.func107,Tryz.ntmps107;go_wp2_with fail;go_ret;exact ⟨rfl,HS.out,HB.out⟩
theorem Qmv (B b:Nat) (len:Int) (er:Int) (her:er≠0) (w:World) (s:List UInt8) (pos e bl:Nat) (o:List Nd) (h:TSt B b w s pos e bl o) :
  Calls Tryz.prog 107 #[.pointer (some ⟨b,0,none⟩),.int .i64 len,.int .i64 er] w fun en w'=>en = .returned (.bool false)/\Below B w w'/\TBadO B b pos (if er=4 then Qd2 (QaH bl) else 3) w' o:=by
 have e0:(er==0)=false:=Zd her;by_cases h4:er=4
 ·have HC:=Za (Qid B b w s pos e bl o h);rw [if_pos h4];subst h4;clear h her e0;go_enter Tryz.func107,Tryz.ntmps107;go_wp2_with fail;((with_reducible refine HC.out.mono ?_));rintro en w1 ⟨rfl,hb,ht⟩;have HB:=Za hb;have HT:=Za ht;clear hb ht HC;go_wp2_with fail;go_ret;exact ⟨rfl,HB.out,HT.out⟩
 ·have e4:(er==4)=false:=Zd h4;have HC:=Za (QfD B b w s pos e bl o h);rw [if_neg h4];clear h her h4;go_enter Tryz.func107,Tryz.ntmps107;go_wp2_with fail;((with_reducible refine HC.out.mono ?_));rintro en w1 ⟨rfl,hb,ht⟩;have HB:=Za hb;have HT:=Za ht;clear hb ht HC;go_wp2_with fail;go_ret;exact ⟨rfl,HB.out,HT.out⟩
theorem QhG (B b:Nat) (len:Int) (er:Int) (her:er≠0) (w:World) (s:List UInt8) (pos e bl:Nat) (o:List Nd) (h:TSt B b w s pos e bl o) :
  Calls Tryz.prog 107 #[.pointer (some ⟨b,0,none⟩),.int .i64 len,.int .i64 er] w fun en w'=>en = .returned (.bool false)/\Below B w w'/\QjH b pos (if er=4 then Qd2 (QaH bl) else 3) w' :=
 (Qmv B b len er her w s pos e bl o h).mono fun _ _ ⟨a,c,d⟩=>⟨a,c,d.bad⟩
def Quh (B b:Nat) (w:World) (s:List UInt8) (pos e bl:Nat) (o:List Nd) (x:CR) (en:Ending) (w':World):Prop :=
 Below B w w'/\match x with
  | .no err=>en = .returned (.tuple #[.int .i64 0,.bool false])/\QjH b pos err w'
  | .ok c=>en = .returned (.tuple #[.int .i64 c,.bool true])/\TSt B b w' s (pos+1) e bl o
set_option maxRecDepth 100000 in
theorem Qp6 (B b:Nat) (most:Nat) (w:World) (s:List UInt8) (pos e bl:Nat) (o:List Nd) (h:TSt B b w s pos e bl o) (hp:pos<=e) (he:e<=s.length) (hs:s.length<=1000000) :
  Calls Tryz.prog 154 #[.pointer (some ⟨b,0,none⟩),.int .i64 most] w (Quh B b w s pos e bl o (QaK s most (QaH bl) pos e)):=by
 have HSZ:=Za h.size;have H0:=Za h;obtain ⟨nv,h1,h2⟩:=h.ex;obtain ⟨c0,c1,c2,c3,c4,c5⟩:=QaY h1;have f1:=Qam h1 1;clear h h1 h2;by_cases hpe:pos=e
 ·have HX:Hid (QaK s most (QaH bl) pos e = .no (Qd2 (QaH bl))):=Za (by unfold QaK;rw [if_pos hpe]);rw [HX.out];have hpe':((pos:Int)==(e:Int))=true:=by rw [beq_iff_eq];omega
  have HC:=Za (fun n=>Qev B b (w.drewN n) s pos e bl o (H0.out.below (below_drewN Zb n)));clear hpe H0;go_enter Tryz.func154,Tryz.ntmps154;go_wp2_with fail;go_quiet (fail);go_wp2_with fail;((with_reducible refine (HC.out _).mono ?_));rintro en w1 ⟨rfl,hb,ht⟩;have HB:=Za hb;have HT:=Za ht;clear hb ht HC;go_wp2_with fail;go_ret2;exact ⟨(below_drewN Zb _).trans HB.out,rfl,HT.out⟩
 ·have hpe':((pos:Int)==(e:Int))=false:=by rw [beq_eq_false_iff_ne];omega
  have hps:pos<s.length:=by omega
  have hps':(pos:Int)<(s.length:Int):=by omega
  obtain ⟨c,hc⟩:∃ c,s.getD pos 0=c:=⟨_,rfl⟩;have hge:∀ h:pos<s.length,s[pos]=c:=fun h=>by rw [<- hc,List.getD_eq_getElem?_getD,List.getElem?_eq_getElem h];rfl
  have hc0:(0:Int)<=(c.toNat:Int):=by omega
  have hc256:(c.toNat:Int)<256:=by have:=c.toNat_lt;omega
  by_cases hm:most<c.toNat
  ·have HX:Hid (QaK s most (QaH bl) pos e = .no 3):=Za (by unfold QaK;rw [if_neg hpe,hc,if_pos hm]);rw [HX.out];have hm':(c.toNat:Int)>(most:Int):=by omega
   have HC:=Za (fun n=>Qga B b (w.drewN n) s pos e bl o (H0.out.below (below_drewN Zb n)));clear hpe H0 hc hm;go_enter Tryz.func154,Tryz.ntmps154;go_wp2_with fail;go_quiet (fail);go_wp2_with fail;go_quiet (fail);go_wp2_with fail;((with_reducible refine (HC.out _).mono ?_));rintro en w1 ⟨rfl,hb,ht⟩;have HB:=Za hb;have HT:=Za ht;clear hb ht HC;go_wp2_with fail;go_ret2;exact ⟨(below_drewN Zb _).trans HB.out,rfl,HT.out⟩
  ·have HX:Hid (QaK s most (QaH bl) pos e = .ok c.toNat):=Za (by unfold QaK;rw [if_neg hpe,hc,if_neg hm]);rw [HX.out];have hm':¬ (c.toNat:Int)>(most:Int):=by omega
   have hcast:((pos+1:Nat):Int)=(pos:Int)+1:=by omega
   have HCC:=Za hcast;obtain ⟨z,hz⟩:∃ z:Int,(pos:Int)=z:=⟨_,rfl⟩;have hz0:0<=z:=by omega
   have hz1:z<1000000:=by omega
   have HZ:=Za hz;clear hpe hc hm hs he hp hps hcast hz;go_enter Tryz.func154,Tryz.ntmps154;go_wp2_with fail;go_quiet (fail);go_wp2_with fail;go_quiet (fail);generalize hW:(w.drewN _).drewN _=W;have HW:Hid (TSt B b W s pos e bl o):=Za (hW▸H0.out.below (below_drewN (below_drewN Zb _) _));have HBW:Hid (Below B w W):=Za (hW▸below_drewN (below_drewN Zb _) _);clear hW c0 c1 c2 c3 c4 c5 f1 H0;have HS:=Za (HW.out.setPos (pos+1));have HB:=Za (HBW.out.trans (HW.out.set 1 (.int .i64 ((pos+1:Nat):Int))));rw [HCC.out,HZ.out] at HS HB;obtain ⟨nv,h1,h2⟩:=HW.out.ex;obtain ⟨c0,c1,c2,c3,c4,c5⟩:=QaY h1;have f1:=Qam h1 1;rw [HZ.out] at c1;clear h1 h2 HW HBW HCC;go_wp2_with fail;go_ret2;exact ⟨HB.out,rfl,HS.out⟩
end
section
open Go.RowKit
attribute [local go_sem] ByteArray.mk_append_mk Qah Qai Qag
theorem Qhe {s:List UInt8} {root:Bool} {up pos:Nat} (h:(QaD s root up pos).err≠0):(QaD s root up pos).segs=[]:=by
 unfold QaD at h |-;by_cases h32:32<up
 ·rw [if_pos h32];rfl
 ·rw [if_neg h32] at h |-;by_cases hc:(Qa0 (s.drop pos) (32-up) (decide (0<pos))).2.2=0
  ·simp only [if_pos hc] at h |-;by_cases hg:(Qbn s (Qa0 (s.drop pos) (32-up) (decide (0<pos))).1.toNat (pos+(Qa0 (s.drop pos) (32-up) (decide (0<pos))).2.1.toNat) []).2.2=0
   ·simp only [if_pos hg] at h;exact absurd rfl h
   ·simp only [if_neg hg];rfl
  ·simp only [if_neg hc];rfl
theorem QnW {s:List UInt8} (h:(Qay s).err≠0):(Qay s).segs=[]:=by
 unfold Qay at h |-;split
 ·next hr=>rw [if_pos hr] at h;exact Qhe h
 ·next hr=>rw [if_neg hr] at h;exact Qhe h
theorem Qhf (s:List UInt8):∀ x∈(Qay s).segs,x.length<=9223372036854775000:=by
 intro x hx;by_cases h:(Qay s).err=0
 ·have hv:=(Qem s h).2.2;unfold QaI at hv;rw [Bool.and_eq_true,List.all_eq_true] at hv;have:=(Qcj (hv.2 x hx)).2;omega
 ·rw [QnW h] at hx;cases hx
def Qvu (B b:Nat) (w:World) (s:List UInt8) (pos e bl:Nat) (o:List Nd) (x:TR) (en:Ending) (w':World):Prop :=
 Below B w w'/\match x with
  | .no err=>(∃ t:List UInt8,en = .returned (.tuple #[.string ⟨t.toArray⟩,.bool false]))/\QjH b pos err w'
  | .ok q t=>en = .returned (.tuple #[.string ⟨t.toArray⟩,.bool true])/\TSt B b w' s q e bl o
def QrY (B b:Nat) (w:World) (s:List UInt8) (pos e bl:Nat) (o:List Nd) (x:TR) (en:Ending) (w':World):Prop :=
 Below B w w'/\match x with
  | .no err=>(∃ t:List UInt8,en = .returned (.tuple #[.string ⟨t.toArray⟩,.bool false]))/\TBadO B b pos err w' o
  | .ok q t=>en = .returned (.tuple #[.string ⟨t.toArray⟩,.bool true])/\TSt B b w' s q e bl o
set_option maxRecDepth 100000 in
theorem QoO (B b:Nat) (single:Bool) (w:World) (s:List UInt8) (pos e bl:Nat) (o:List Nd) (h:TSt B b w s pos e bl o) (hp:pos<=e) (he:e<=s.length) (hs:s.length<=1000000) :
  Calls Tryz.prog 109 #[.pointer (some ⟨b,0,none⟩),.bool single] w (QrY B b w s pos e bl o (QbR s single (QaH bl) pos e)):=by
 have H0:=Za h;have HR:=Za (QfY B b w s pos e bl o h hp he hs);have hsz:=h.size;obtain ⟨X,hX⟩:∃ X,Hid (QbR s single (QaH bl) pos e=X):=⟨_,Za rfl⟩;have hXd:=hX.out;unfold QbR at hXd;have hrl:=Qbs hp he;obtain ⟨rs,hrs⟩:∃ rs,Qaw s pos e=rs:=⟨_,rfl⟩;rw [hrs] at HR hXd hrl;have HP:=Za (fun w=>QuH rs w (by omega));unfold Que at HP;have hsh:=Qhf rs;have hbk:=Qem rs;obtain ⟨Q,hQ⟩:∃ Q,Qay rs=Q:=⟨_,rfl⟩;rw [hQ] at HP hXd hsh hbk;obtain ⟨R,U,SG,ps,er⟩:=Q;simp only [] at HP hXd hsh hbk;rw [hX.out];have HX:=Za hXd;have HSH:=Za hsh;have hps:er=0->pos+ps<=1000000:=fun h=>by have:=(hbk h).2.1;omega
 have HFM:Hid (∀ w P,PathV w P R (U:Int) SG->Calls Tryz.prog 153 #[P] w fun e w'=>e = .returned (.string ⟨(Qdw R U SG).toArray⟩)/\Below w.heap.size w w'):=Za (fun w P h=>Qnh P R U SG w h HSH.out);obtain ⟨FT,hFT⟩:∃ FT,Qdw R U SG=FT:=⟨_,rfl⟩;rw [hFT] at HFM;have HFT:=Za hFT;obtain ⟨n1,hn1⟩:∃ n,SG.length=n:=⟨_,rfl⟩;have HN1:=Za hn1;clear h hXd hX hrl hrs hsh hbk hQ hFT hn1 hs hp he;go_enter Tryz.func109,Tryz.ntmps109;go_wp2_with fail;((with_reducible refine HR.out.mono ?_));rintro en w1 ⟨rfl,nq,rfl⟩;go_wp2_with fail;((with_reducible refine (HP.out _).mono ?_));rintro en w2 ⟨a1,n,c1,rfl,HS2,HB2⟩;have hb2:Below B w w2:=(below_drewN Zb nq).trans (HB2.out.mono (by simpa using hsz));have H2:Hid (TSt B b w2 s pos e bl o):=Za ((H0.out.below (below_drewN Zb nq)).below HB2.out);have HW2:=Za hb2;have hnn:n=n1:=by
  obtain ⟨a',c',hv,_⟩:=HS2.out.form;injection hv with _ hv _;rw [hv];exact HN1.out
 subst hnn;have HBX:=Za (BoxAt.start (root:=R) (up:=(U:Int)) HS2.out);have hal:Below w2.heap.size w2 (w2.alloc (.cells #[.bool R,.int .i64 U,.slice a1 n c1] 128)):=Zb.alloc Zc _;have H3:=Za (H2.out.below hal);have HW3:=Za (Qar HW2.out hsz hal);clear hal hb2 HB2 H2 HW2 H0 HR HP HS2;go_upto_region 2 with fail;generalize w2.alloc (.cells #[.bool R,.int .i64 U,.slice a1 n c1] 128)=w3 at HBX H3 HW3 |-;have HFC:=Za (HFM.out w3 _ HBX.out.pathV);obtain ⟨p0,p1,p2⟩:=HBX.out.cells;clear HFM HBX;by_cases her:er=0
 ·subst her;by_cases hbad:single=true/\(R=true\/0<U\/SG.length≠1)
  ·have HXX:Hid (X = .no 3):=Za (by rw [<- HX.out,if_pos rfl,if_pos hbad]);obtain ⟨rfl,hb⟩:=hbad;have HC:=Za (QfD B b w3 s pos e bl o H3.out);clear hps;have hb':R=true\/(R=false/\(U:Int)>0)\/(R=false/\U=0/\((n:Int) != 1)=true):=by
    cases R with
    | true=>exact .inl rfl
    | false =>
      rcases hb with h|h|h
      ·cases h
      ·exact .inr (.inl ⟨rfl,by omega⟩)
      ·by_cases hu:(U:Int)>0
       ·exact .inr (.inl ⟨rfl,hu⟩)
       ·exact .inr (.inr ⟨rfl,by omega,by rw [bne_iff_ne];rw [HN1.out] at h;omega⟩)
   clear hb;rcases hb' with rfl|⟨rfl,hu⟩|⟨rfl,rfl,hn⟩
   all_goals
    go_wp2_with fail;((with_reducible refine HC.out.mono ?_));rintro en w4 ⟨rfl,hb4,ht4⟩;have HB4:=Za (HW3.out.trans hb4);have HT4:=Za ht4;clear hb4 ht4 HC;go_wp2_with fail;go_ret2;rw [HXX.out];exact ⟨HB4.out,⟨[],rfl⟩,HT4.out⟩
  ·have HXX:Hid (X = .ok (pos+ps) FT):=Za (by rw [<- HX.out,if_pos rfl,if_neg hbad,HFT.out]);have hpl:=Za (hps rfl);have hb':single=false\/(single=true/\R=false/\U=0/\((n:Int) != 1)=false):=by
    cases single with
    | false=>exact .inl rfl
    | true =>
      refine .inr ⟨rfl,?_,?_,?_⟩
      ·cases R with
       | true=>exact absurd ⟨rfl,.inl rfl⟩ hbad
       | false=>rfl
      ·exact Classical.byContradiction fun h=>hbad ⟨rfl,.inr (.inl (by omega))⟩
      ·rw [bne_eq_false_iff_eq];exact Classical.byContradiction fun h=>hbad ⟨rfl,.inr (.inr (by rw [HN1.out];omega))⟩
   clear hbad hps;rcases hb' with rfl|⟨rfl,rfl,rfl,hn⟩
   all_goals
    (try rw [show (((0:Nat)):Int)=0 from rfl] at HFC);go_wp2_with fail;((with_reducible refine HFC.out.mono ?_));rintro en w4 ⟨rfl,hb4⟩;have H4:=Za (H3.out.below hb4);have HW4:=Za (Qar HW3.out hsz hb4);clear hb4 HFC H3 HW3;have HC:=Za (QfZ B b ps w4 s pos e bl o H4.out hpl.out);go_wp2_with fail;((with_reducible refine HC.out.mono ?_));rintro en w5 ⟨rfl,ht5,hb5⟩;have HB5:=Za (HW4.out.trans hb5);have HT5:=Za ht5;clear hb5 ht5 HC;go_wp2_with fail;go_ret2;rw [HXX.out];exact ⟨HB5.out,rfl,HT5.out⟩
 ·have HXX:Hid (X = .no (if (er:Int)=4 then Qd2 (QaH bl) else 3)):=Za (by
   rw [<- HX.out,if_neg her];unfold Qen;by_cases h4:er=4
   ·rw [if_pos h4,if_pos (by omega)]
   ·rw [if_neg h4,if_neg (by omega)])
  have her':((er:Int)==0)=false:=by rw [beq_eq_false_iff_ne];omega
  have HER:Hid ((er:Int)≠0):=Za (by omega);clear her hps;go_wp2_with fail;((with_reducible refine HFC.out.mono ?_));rintro en w4 ⟨rfl,hb4⟩;have H4:=Za (H3.out.below hb4);have HW4:=Za (Qar HW3.out hsz hb4);clear hb4 HFC H3 HW3;have HC:=Za (Qmv B b ps er HER.out w4 s pos e bl o H4.out);go_wp2_with fail;((with_reducible refine HC.out.mono ?_));rintro en w5 ⟨rfl,hb5,ht5⟩;have HB5:=Za (HW4.out.trans hb5);have HT5:=Za ht5;clear hb5 ht5 HC;go_wp2_with fail;go_ret2;rw [HXX.out];exact ⟨HB5.out,⟨FT,rfl⟩,HT5.out⟩
theorem Qp7 (B b:Nat) (single:Bool) (w:World) (s:List UInt8) (pos e bl:Nat) (o:List Nd) (h:TSt B b w s pos e bl o) (hp:pos<=e) (he:e<=s.length) (hs:s.length<=1000000) :
  Calls Tryz.prog 109 #[.pointer (some ⟨b,0,none⟩),.bool single] w (Qvu B b w s pos e bl o (QbR s single (QaH bl) pos e)) :=
 (QoO B b single w s pos e bl o h hp he hs).mono fun en w' ⟨h1,h2⟩=>⟨h1,by
  cases hx:QbR s single (QaH bl) pos e with
  | no err=>rw [hx] at h2;exact ⟨h2.1,h2.2.bad⟩
  | ok q t=>rw [hx] at h2;exact h2⟩
end
section
open Go.RowKit
attribute [local go_sem] ByteArray.mk_append_mk Qah Qai Qag
theorem Qf0 (r:List UInt8) (n l:Nat) (h:(Qbt r n l).2.2≠0):Qbt r n l=(0,0,(Qbt r n l).2.2)/\((Qbt r n l).2.2=3\/(Qbt r n l).2.2=4):=by
 by_cases h1:r.length<n
 ·have e:Qbt r n l=(0,0,4):=by rw [Qbt,if_pos h1]
  rw [e];exact ⟨rfl,.inr rfl⟩
 ·by_cases h2:num (r.take n)<l\/num (r.take n)=Qce
  ·have e:Qbt r n l=(0,0,3):=by rw [Qbt,if_neg h1,if_pos h2]
   rw [e];exact ⟨rfl,.inl rfl⟩
  ·have e:(Qbt r n l).2.2=0:=by rw [Qbt,if_neg h1,if_neg h2]
   exact absurd e h
theorem Qp8 (s:List UInt8) (h:(Qba s).2.2≠0):Qba s=(0,0,(Qba s).2.2)/\((Qba s).2.2=3\/(Qba s).2.2=4):=by
 cases s with
 | nil=>exact ⟨rfl,.inr rfl⟩
 | cons c r =>
   by_cases h1:c.toNat<=1
   ·have e:(Qba (c::r)).2.2=0:=by rw [Qba,if_pos h1]
    exact absurd e h
   by_cases h2:c.toNat=255
   ·have e:(Qba (c::r)).2.2=0:=by rw [Qba,if_neg h1,if_pos h2]
    exact absurd e h
   by_cases h3:c.toNat=10
   ·have e:Qba (c::r)=Qbt r 1 2:=by rw [Qba,if_neg h1,if_neg h2,if_pos h3]
    rw [e] at h |-;exact Qf0 _ _ _ h
   by_cases h4:c.toNat=11
   ·have e:Qba (c::r)=Qbt r 2 256:=by rw [Qba,if_neg h1,if_neg h2,if_neg h3,if_pos h4]
    rw [e] at h |-;exact Qf0 _ _ _ h
   by_cases h5:c.toNat=12
   ·have e:Qba (c::r)=Qbt r 4 65536:=by rw [Qba,if_neg h1,if_neg h2,if_neg h3,if_neg h4,if_pos h5]
    rw [e] at h |-;exact Qf0 _ _ _ h
   by_cases h6:c.toNat=14
   ·have e:Qba (c::r)=Qbt r 8 4294967296:=by rw [Qba,if_neg h1,if_neg h2,if_neg h3,if_neg h4,if_neg h5,if_pos h6]
    rw [e] at h |-;exact Qf0 _ _ _ h
   have e:Qba (c::r)=(0,0,3):=by rw [Qba,if_neg h1,if_neg h2,if_neg h3,if_neg h4,if_neg h5,if_neg h6]
   rw [e];exact ⟨rfl,.inl rfl⟩
theorem Qp9 (s:List UInt8) (h:(Qbl s).2.2≠0):Qbl s=([],0,(Qbl s).2.2)/\((Qbl s).2.2=3\/(Qbl s).2.2=4):=by
 match s with
 | []=>exact ⟨rfl,.inr rfl⟩
 | [c] =>
   by_cases h1:c.toNat=13
   ·have e:Qbl [c]=([],0,4):=by rw [Qbl,if_pos h1]
    rw [e];exact ⟨rfl,.inr rfl⟩
   ·have e:Qbl [c]=([],0,3):=by rw [Qbl,if_neg h1]
    rw [e];exact ⟨rfl,.inl rfl⟩
 | c::d::r =>
   by_cases h1:c.toNat=13
   ·by_cases h2:r.length<d.toNat
    ·have e:Qbl (c::d::r)=([],0,4):=by rw [Qbl,if_pos h1,if_pos h2]
     rw [e];exact ⟨rfl,.inr rfl⟩
    ·have e:(Qbl (c::d::r)).2.2=0:=by rw [Qbl,if_pos h1,if_neg h2]
     exact absurd e h
   ·have e:Qbl (c::d::r)=([],0,3):=by rw [Qbl,if_neg h1]
    rw [e];exact ⟨rfl,.inl rfl⟩
theorem QgA (c:UInt8) (r:List UInt8) (k l:Nat) (h:(Qbr c r k l).2.2≠0):(Qbr c r k l).2.2=3\/(Qbr c r k l).2.2=4:=by
 unfold Qbr at h |-;by_cases h1:c.toNat / 16 % 4≠0
 ·rw [if_pos h1];exact .inl rfl
 rw [if_neg h1] at h |-;by_cases h2:r.length+1<k
 ·rw [if_pos h2];exact .inr rfl
 rw [if_neg h2] at h |-;by_cases h3:c.toNat % 16+16 * num (r.take (k-1))<l+1
 ·rw [if_pos h3];exact .inl rfl
 rw [if_neg h3] at h;exact absurd rfl h
theorem Qqa (s:List UInt8) (h:(Qbf s).2.2≠0):(Qbf s).2.2=3\/(Qbf s).2.2=4:=by
 cases s with
 | nil=>exact .inr rfl
 | cons c r =>
   rw [Qbf] at h |-;by_cases h1:c.toNat=0
   ·rw [if_pos h1];exact .inl rfl
   rw [if_neg h1] at h |-;by_cases h2:c.toNat<64
   ·rw [if_pos h2] at h;exact absurd rfl h
   rw [if_neg h2] at h |-;by_cases h3:c.toNat<128
   ·rw [if_pos h3] at h |-;exact QgA _ _ _ _ h
   rw [if_neg h3] at h |-;by_cases h4:c.toNat<192
   ·rw [if_pos h4] at h |-;exact QgA _ _ _ _ h
   rw [if_neg h4] at h |-;exact QgA _ _ _ _ h
def Qui (w:World) (r:PathR) (e:Ending) (w':World):Prop :=
 ∃ a n c,e = .returned (.tuple #[.agg #[.bool r.root,.int .i64 r.up,.slice a n c],.int .i64 r.pos,.int .i64 r.err])/\Hid (w'.ownsRow w.heap.size 9 1 (.slice a n c) r.segs.length (r.segs.map QbT)/\r.segs.length<=9223372036854775000)/\Hid (Below w.heap.size w w')
theorem QtE (s:List UInt8) (w:World) (hm:s.length<=9223372036854774000):Calls Tryz.prog 211 #[.string ⟨s.toArray⟩] w (Qui w (Qay s)) :=
 (QpD s w hm).mono fun _ _ ⟨v,he,ho,hb⟩=>by
  obtain ⟨a,n,c,rfl⟩:=QfQ ho;exact ⟨a,n,c,he,Za ⟨ho,by have:=Qgp s;omega⟩,Za hb⟩
theorem Qqb {w:World} {P:Nat} {R:Bool} {U:Int} {v:Value} (h:w.heap[P]?=some (QgR R U v)):w.cell? ⟨P,0,none⟩=some (.bool R)/\w.cell? ⟨P,1,none⟩=some (.int .i64 U)/\w.cell? ⟨P,2,none⟩=some v :=
 ⟨(cell_of_row w _ 0 _ _ _ h).trans rfl,(cell_of_row w _ 1 _ _ _ h).trans rfl,(cell_of_row w _ 2 _ _ _ h).trans rfl⟩
def QoP (B b:Nat) (w:World) (s:List UInt8) (pos e:Nat) (inner:Bool) (o:List Nd) (x:TR) (en:Ending) (w':World):Prop :=
 Below B w w'/\Only b w w'/\match x with
  | .no err=>en = .returned (.string ⟨#[]⟩)/\RdBad0 B b pos err w' o
  | .ok q t=>en = .returned (.string ⟨t.toArray⟩)/\RdSt B b w' s q e inner o
theorem QkT (s:List UInt8):∀ f i n,(QbX s f i n).2=0\/(QbX s f i n).2=3\/(QbX s f i n).2=4
 | 0,i,n=>.inl rfl
 | f+1,i,n=>by
   by_cases h:i<s.length
   ·rw [Qgm s f i n h];cases Qbw s[i].toNat i n with
    | none=>exact .inr (.inl rfl)
    | some m=>exact QkT s f (i+1) m
   ·rw [Qgl s f i n (by omega)];exact .inr (.inr rfl)
theorem QjJ (s:List UInt8):∀ n pos acc,(Qbn s n pos acc).2.2=0\/(Qbn s n pos acc).2.2=3\/(Qbn s n pos acc).2.2=4
 | 0,pos,acc=>.inl rfl
 | n+1,pos,acc=>by
   by_cases h:(Qb5 (s.drop pos)).2=0
   ·rw [Qbn,if_pos h];exact QjJ s n _ _
   ·rw [Qbn,if_neg h];exact QkT _ _ _ _
theorem QnX (r:List UInt8) (most:Int):(QcG most r).2.2=0\/(QcG most r).2.2=3\/(QcG most r).2.2=4:=by
 cases r with
 | nil=>exact .inr (.inr rfl)
 | cons d r =>
   rw [QcG];by_cases h1:d.toNat<3
   ·rw [if_pos h1];exact .inr (.inl rfl)
   rw [if_neg h1];by_cases h2:most<d.toNat
   ·rw [if_pos h2];exact .inr (.inl rfl)
   rw [if_neg h2];exact .inl rfl
theorem Qqc (s:List UInt8) (most:Int) (pre:Bool):(Qa0 s most pre).2.2=0\/(Qa0 s most pre).2.2=3\/(Qa0 s most pre).2.2=4:=by
 cases s with
 | nil=>exact .inr (.inr rfl)
 | cons c r =>
   rw [Qa0];by_cases h1:c.toNat=0
   ·rw [if_pos h1];cases pre with
    | true=>exact .inl rfl
    | false=>exact .inr (.inl rfl)
   rw [if_neg h1];by_cases h2:c.toNat=46
   ·rw [if_pos h2];by_cases h3:most<2
    ·rw [if_pos h3];exact .inr (.inl rfl)
    ·rw [if_neg h3];exact .inl rfl
   rw [if_neg h2];by_cases h3:c.toNat=47
   ·rw [if_pos h3];by_cases h4:most<3
    ·rw [if_pos h4];exact .inr (.inl rfl)
    ·rw [if_neg h4];exact QnX r most
   rw [if_neg h3];by_cases h4:most<1
   ·rw [if_pos h4];exact .inr (.inl rfl)
   ·rw [if_neg h4];exact .inl rfl
theorem Qhg (s:List UInt8) (root:Bool) (up pos:Nat):(QaD s root up pos).err=0\/(QaD s root up pos).err=3\/(QaD s root up pos).err=4:=by
 unfold QaD;by_cases h:32<up
 ·rw [if_pos h];exact .inr (.inl rfl)
 rw [if_neg h];simp only [];by_cases h1:(Qa0 (s.drop pos) (32-up) (decide (0<pos))).2.2=0
 ·rw [if_pos h1];by_cases h2:(Qbn s (Qa0 (s.drop pos) (32-up) (decide (0<pos))).1.toNat (pos+(Qa0 (s.drop pos) (32-up) (decide (0<pos))).2.1.toNat) []).2.2=0
  ·rw [if_pos h2];exact .inl rfl
  ·rw [if_neg h2];exact QjJ _ _ _ _
 ·rw [if_neg h1];rcases Qqc (s.drop pos) (32-up) (decide (0<pos)) with h2|h2|h2
  ·exact absurd h2 h1
  ·rw [h2];exact .inr (.inl rfl)
  ·rw [h2];exact .inr (.inr rfl)
theorem QnY (s:List UInt8):(Qay s).err=0\/(Qay s).err=3\/(Qay s).err=4:=by
 unfold Qay;by_cases h:Qbh s=true
 ·rw [if_pos h];exact Qhg _ _ _ _
 ·rw [if_neg h];exact Qhg _ _ _ _
set_option maxRecDepth 100000 in
theorem Qmw (B b:Nat) (single:Bool) (w:World) (s:List UInt8) (pos e:Nat) (inner:Bool) (o:List Nd) (h:RdSt B b w s pos e inner o) (hp:pos<=e) (he:e<=s.length) (hs:s.length<=1000000) :
  Calls Tryz.prog 162 #[.pointer (some ⟨b,0,none⟩),.bool single] w (QoP B b w s pos e inner o (QbR s single inner pos e)):=by
 have H0:=Za h;have HR:=Za (QdW B b w s pos e inner o h hp he hs);have hsz:=h.size;obtain ⟨X,hX⟩:∃ X,Hid (QbR s single inner pos e=X):=⟨_,Za rfl⟩;have hXd:=hX.out;unfold QbR at hXd;have hrl:=Qbs hp he;obtain ⟨rs,hrs⟩:∃ rs,Qaw s pos e=rs:=⟨_,rfl⟩;rw [hrs] at HR hXd hrl;have HP:=Za (fun w=>QtE rs w (by omega));unfold Qui at HP;have hsh:=Qhf rs;have hbk:=Qem rs;have hln:=Qgp rs;have herr:=QnY rs;obtain ⟨Q,hQ⟩:∃ Q,Qay rs=Q:=⟨_,rfl⟩;rw [hQ] at HP hXd hsh hbk hln herr;obtain ⟨R,U,SG,ps,er⟩:=Q;simp only [] at HP hXd hsh hbk herr;rw [hX.out];have HX:=Za hXd;have HSH:=Za hsh;have hps:er=0->pos+ps<=1000000:=fun h=>by have:=(hbk h).2.1;omega
 have HFM:Hid (∀ w P,PathV w P R (U:Int) SG->Calls Tryz.prog 146 #[P] w fun e w'=>e = .returned (.string ⟨(Qdw R U SG).toArray⟩)/\Below w.heap.size w w'):=Za (fun w P h=>QdX P R U SG w h HSH.out);obtain ⟨FT,hFT⟩:∃ FT,Qdw R U SG=FT:=⟨_,rfl⟩;rw [hFT] at HFM;have HFT:=Za hFT;obtain ⟨n1,hn1⟩:∃ n,SG.length=n:=⟨_,rfl⟩;have HN1:=Za hn1;have HSL:Hid (SG.length<=9223372036854775000):=Za (by simp only [] at hln;omega);clear h hXd hX hrl hrs hsh hbk hln hQ hFT hn1 hs hp he;go_enter Tryz.func162,Tryz.ntmps162;go_wp2_with fail;((with_reducible refine HR.out.mono ?_));rintro en w1 ⟨rfl,nq,rfl⟩;go_wp2_with fail;((with_reducible refine (HP.out _).mono ?_));rintro en w2 ⟨a1,n,c1',rfl,HO2,HB2⟩;have HS2:=Za (StrsAt.of_own HO2.out.1 HO2.out.2);have hb2:Below B w w2:=(below_drewN Zb nq).trans (HB2.out.mono (by simpa using hsz));have H2:Hid (RdSt B b w2 s pos e inner o):=Za ((H0.out.below (below_drewN Zb nq)).below HB2.out);have HW2:=Za hb2;have hnn:n=n1:=by
  obtain ⟨a',c',hv,_⟩:=HS2.out.form;injection hv with _ hv _;rw [hv];exact HN1.out
 subst hnn;have HBX:=Za (BoxAt.start (root:=R) (up:=(U:Int)) HS2.out);have hal:Below w2.heap.size w2 (w2.alloc (.cells #[.bool R,.int .i64 U,.slice a1 n c1'] 128)):=Zb.alloc Zc _;have H3:=Za (H2.out.below hal);have HO3:=Za (QbH HO2.out.1 hal);have HBA:Hid (b<(w.drewN nq).heap.size):=Za (by simpa using H0.out.lt);have HBP:Hid (b<w2.heap.size):=Za H2.out.lt;have HW3:=Za (Qar HW2.out hsz hal);have HQ3:Hid (Only b w _):=Za (((Only.below (b:=b) (below_drewN Zb nq)).trans (Only.below (b:=b) HB2.out)).trans (Only.below (b:=b) hal));clear hal hb2 HB2 H2 HW2 H0 HR HP HS2 HO2;go_upto_region 4 with fail;generalize w2.alloc (.cells #[.bool R,.int .i64 U,.slice a1 n c1'] 128)=w3 at HBX H3 HO3 HW3 HQ3 |-;obtain ⟨p0,p1,p2⟩:=HBX.out.cells;obtain ⟨nv3,k1,k2⟩:=H3.out.ex;obtain ⟨c0,c1,c2,c3,c4,c5,c6⟩:=Qaj k1;have f1:=Qam k1 1;clear k1 k2;by_cases her:er=0
 ·subst her;by_cases hbad:single=true/\(R=true\/0<U\/SG.length≠1)
  ·have HXX:Hid (X = .no (QdA inner 3)):=Za (by rw [<- HX.out,if_pos rfl,if_pos hbad]<;>rfl);obtain ⟨rfl,hb⟩:=hbad;have HC:=Za (Qhd B b 3 pos (.inl rfl) w3 s pos e inner o H3.out);clear hps herr;have hb':R=true\/(R=false/\(U:Int)>0)\/(R=false/\U=0/\((n:Int) != 1)=true):=by
    cases R with
    | true=>exact .inl rfl
    | false =>
      rcases hb with h|h|h
      ·cases h
      ·exact .inr (.inl ⟨rfl,by omega⟩)
      ·by_cases hu:(U:Int)>0
       ·exact .inr (.inl ⟨rfl,hu⟩)
       ·exact .inr (.inr ⟨rfl,by omega,by rw [bne_iff_ne];rw [HN1.out] at h;omega⟩)
   clear hb;rcases hb' with rfl|⟨rfl,hu⟩|⟨rfl,rfl,hn⟩
   all_goals
    go_wp2_with fail;((with_reducible refine HC.out.mono ?_));rintro en w4 ⟨rfl,ht4,hb4,hq4⟩;have HB4:=Za (HW3.out.trans hb4);have HQ4:=Za (HQ3.out.trans hq4);have HT4:=Za ht4;clear hb4 ht4 hq4 HC;go_wp2_with fail;go_ret;rw [HXX.out];exact ⟨HB4.out,HQ4.out,rfl,HT4.out⟩
  ·have HXX:Hid (X = .ok (pos+ps) FT):=Za (by rw [<- HX.out,if_pos rfl,if_neg hbad,HFT.out]);have hpl:=Za (hps rfl);have hb':single=false\/(single=true/\R=false/\U=0/\((n:Int) != 1)=false):=by
    cases single with
    | false=>exact .inl rfl
    | true =>
      refine .inr ⟨rfl,?_,?_,?_⟩
      ·cases R with
       | true=>exact absurd ⟨rfl,.inl rfl⟩ hbad
       | false=>rfl
      ·exact Classical.byContradiction fun h=>hbad ⟨rfl,.inr (.inl (by omega))⟩
      ·rw [bne_eq_false_iff_eq];exact Classical.byContradiction fun h=>hbad ⟨rfl,.inr (.inr (by rw [HN1.out];omega))⟩
   have HS5:=Za (H3.out.setPos (pos+ps));have hB5:=H3.out.set 1 (.int .i64 ((pos+ps:Nat):Int));have HB5:=Za (HW3.out.trans hB5);have HQ5:=Za (HQ3.out.trans (Only.set1 b w3 ((pos+ps:Nat):Int)));have HK5:Hid ((w3.setCell ⟨b,1,none⟩ (.int .i64 ((pos+ps:Nat):Int))).heap[w2.heap.size]?=some (QgR R U (.slice a1 n c1'))):=Za ((Below.heap_setCell _ _ _ _ (by have:=HBP.out;show w2.heap.size≠b;omega)).trans HBX.out.1);have HO5:=Za (QaA HO3.out ⟨b,1,none⟩ (.int .i64 ((pos+ps:Nat):Int)) (fun hk=>by have h1:=QaN HO3.out hk;have h2:=HBA.out;simp only [] at h1;omega));have HFC:=Za (HFM.out _ _ ⟨_,rfl,StrsAt.of_own HO5.out HSL.out⟩);obtain ⟨z1,hz1⟩:∃ z:Int,(pos:Int)=z:=⟨_,rfl⟩;obtain ⟨z2,hz2⟩:∃ z:Int,(ps:Int)=z:=⟨_,rfl⟩;have b1:0<=z1:=by omega
   have b2:0<=z2:=by omega
   have b3:z1+z2<=1000000:=by have:=hpl.out;omega
   rw [show ((pos+ps:Nat):Int)=z1+z2 by omega] at HS5 HB5 HK5 HFC HO5 HQ5;rw [hz1] at c1;rw [hz2];clear hz1 hz2 HFM HBX hbad hps herr hB5;rcases hb' with rfl|⟨rfl,rfl,rfl,hn⟩
   all_goals
    (try rw [show (((0:Nat)):Int)=0 from rfl] at HFC HK5);go_upto_region 3 with fail;generalize w3.setCell ⟨b,1,none⟩ (.int .i64 (z1+z2))=w5 at HS5 HB5 HK5 HFC HO5 HQ5 |-;clear p0 p1 p2 c0 c1 c2 c3 c4 c5 c6 f1;obtain ⟨p0,p1,p2⟩:=Qqb HK5.out;go_wp2_with fail;((with_reducible refine HFC.out.mono ?_));rintro en w6 ⟨rfl,hb6⟩;have H6:=Za (HS5.out.below hb6);have HW6:=Za (Qar HB5.out hsz hb6);have HQ6:=Za (HQ5.out.trans (Only.below (b:=b) hb6));clear hb6 HFC;go_wp2_with fail;go_ret;rw [HXX.out];exact ⟨HW6.out,HQ6.out,rfl,H6.out⟩
 ·have HXX:Hid (X = .no (QdA inner er)):=Za (by
   rw [<- HX.out,if_neg her];unfold Qen QdA;by_cases h4:er=4
   ·rw [if_pos h4,if_pos (by omega)]
   ·rw [if_neg h4,if_neg (by omega)])
  have her':((er:Int) != 0)=true:=by rw [bne_iff_ne];omega
  have HC:=Za (Qhd B b er pos (by omega) w3 s pos e inner o H3.out);clear her hps herr;go_wp2_with fail;((with_reducible refine HC.out.mono ?_));rintro en w4 ⟨rfl,ht4,hb4,hq4⟩;have HB4:=Za (HW3.out.trans hb4);have HQ4:=Za (HQ3.out.trans hq4);have HT4:=Za ht4;clear hb4 ht4 hq4 HC;go_wp2_with fail;go_ret;rw [HXX.out];exact ⟨HB4.out,HQ4.out,rfl,HT4.out⟩
end
end Go.Proofs.YtoohondkpddmcaaGreatDoor
