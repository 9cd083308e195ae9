/- Ma Mb -/
import Derived.Test.YtoohondkpddmcaaGreatDoorYzz
import Derived.Test.YtoohondkpddmcaaGreatDoorYbe
import Derived.Test.YtoohondkpddmcaaGreatDoorYaz
namespace Go.Proofs.YtoohondkpddmcaaGreatDoor
set_option maxHeartbeats 32000000
set_option linter.unusedVariables false
set_option linter.unusedSimpArgs false
section
open Go.RowKit
attribute [local go_sem] ByteArray.mk_append_mk Qah Qai Qag
def QnZ (B b : Nat) (s : List UInt8) (f : Nat) : Prop := ∀ (k : UInt8) (w : World) (pos e : Nat) (inner : Bool) (o : List Nd), RdSt B b w s pos e inner o → pos ≤ e → e ≤ s.length → s.length < pos + f → o.length ≤ pos →
    Calls Tryz.prog 111 #[.pointer (some ⟨b,0,none⟩),.int .u8 k.toNat] w (QbK B b w s e inner o (Qas s f k inner pos e))
theorem RdBad.cells {B b q:Nat} {err:Int} {w:World} {o:List Nd} (h:RdBad B b q err w o):∃ (s:List UInt8) (pos e:Int) (inner:Bool) (nv:Value) (ms:List Nd),w.heap[b]?=some (rdO s pos e inner nv err q)/\NodesI w B nv (o++ms)/\(err=3\/err=4)/\B<=b/\B<=w.heap.size:=h
set_option maxRecDepth 100000 in
theorem Qn0 (B b:Nat) (s:List UInt8) (f:Nat) (hs:s.length<=65536) (w:World) (pos:Nat) (inner:Bool) (o:List Nd) (k:UInt8) (ht:RdSt B b w s pos pos inner o) (he:pos<=s.length) :
  Calls Tryz.prog 111 #[.pointer (some ⟨b,0,none⟩),.int .u8 k.toNat] w (QbK B b w s pos inner o (QaU s (Qas s f) k inner pos pos)):=by
 have HX:Hid (QaU s (Qas s f) k inner pos pos = .no pos (QdA inner 4)):=Za (by unfold QaU;rw [if_pos rfl]<;>rfl);rw [HX.out];have HC:=Za (fun n=>QdV B b 4 pos (.inr rfl) (w.drewN n) s pos pos inner o (ht.below (below_drewN Zb n)));obtain ⟨nv,h1,h2⟩:=ht.ex;obtain ⟨c0,c1,c2,c3,c4,c5,c6⟩:=Qaj h1;have hpe':((pos:Int)==(pos:Int))=true:=by rw [beq_iff_eq]
 clear ht h1 h2 HX;go_enter Tryz.func111,Tryz.ntmps111;go_wp2_with fail;go_quiet (fail);go_wp2_with fail;((with_reducible refine (HC.out _).mono ?_));rintro en w1 ⟨rfl,hb,ht⟩;have HB:=Za hb;have HT:=Za ht;obtain ⟨s1,p1,e1,i1,nv1,ms,k1,_,ker,_⟩:=hb;obtain ⟨d0,d1,d2,d3,d4,d5,d6⟩:=Qaj k1;have hne:((QdA inner 4) != 0)=true:=by rw [bne_iff_ne];rcases ker with h|h<;>rw [h]<;>decide
 clear ht k1 HC c0 c1 c2 c3 c4 c5 c6 ker;go_wp2_with fail;go_end0;exact ⟨(below_drewN Zb _).trans HT.out,rfl,HB.out⟩
set_option maxRecDepth 100000 in
theorem Qn1 (B b:Nat) (s:List UInt8) (f:Nat) (hs:s.length<=65536) (w:World) (pos e:Nat) (inner:Bool) (o:List Nd) (k:UInt8) (ht:RdSt B b w s pos e inner o) (hp:pos<e) (he:e<=s.length) (c:UInt8) (hc:s.getD pos 0=c) (ha:Qaq k (QaP c)=false) :
  Calls Tryz.prog 111 #[.pointer (some ⟨b,0,none⟩),.int .u8 k.toNat] w (QbK B b w s e inner o (QaU s (Qas s f) k inner pos e)):=by
 have HX:Hid (QaU s (Qas s f) k inner pos e = .no pos (QdA inner 3)):=Za (by unfold QaU;rw [if_neg (by omega),hc,if_pos ha]<;>rfl);rw [HX.out];have HC:=Za (fun n=>QdV B b 3 pos (.inl rfl) (w.drewN n) s pos e inner o (ht.below (below_drewN Zb n)));obtain ⟨nv,h1,h2⟩:=ht.ex;obtain ⟨c0,c1,c2,c3,c4,c5,c6⟩:=Qaj h1;have hpe':((pos:Int)==(e:Int))=false:=by rw [beq_eq_false_iff_ne];omega
 have hps':(pos:Int)<(s.length:Int):=by omega
 have hps:pos<s.length:=by omega
 have hge:∀ h:pos<s.length,s[pos]=c:=fun h=>by rw [<- hc,List.getD_eq_getElem?_getD,List.getElem?_eq_getElem h];rfl
 obtain ⟨op,hop⟩:∃ op,Hid (QaP c=op):=⟨_,Za rfl⟩;have HOP:=Za (fun w=>Qdf c op hop w);rw [hop.out] at ha;have HAC:=Za (fun w=>Qdc k op false (Za ha) w);have hc0:(0:Int)<=(c.toNat:Int):=by omega
 have hc256:(c.toNat:Int)<256:=by have:=c.toNat_lt;omega
 clear ht h1 h2 HX hp he hc ha hop;by_cases h0:op=0
 ·subst h0;go_enter Tryz.func111,Tryz.ntmps111;go_wp2_with fail;go_quiet (fail);go_wp2_with fail;go_quiet (fail);go_wp2_with fail;((with_reducible refine (HOP.out _).mono ?_));rintro en w1 ⟨rfl,rfl⟩;go_wp2_with fail;((with_reducible refine (HC.out _).mono ?_));rintro en w1 ⟨rfl,hb,ht⟩;have HB:=Za hb;have HT:=Za ht;clear hb ht HC;go_wp2_with fail;go_end0;exact ⟨(below_drewN Zb _).trans HT.out,rfl,HB.out⟩
 ·have h0':(op==0)=false:=Zd h0;clear h0;go_enter Tryz.func111,Tryz.ntmps111;go_wp2_with fail;go_quiet (fail);go_wp2_with fail;go_quiet (fail);go_wp2_with fail;((with_reducible refine (HOP.out _).mono ?_));rintro en w1 ⟨rfl,rfl⟩;go_wp2_with fail;((with_reducible refine (HAC.out _).mono ?_));rintro en w1 ⟨rfl,rfl⟩;go_wp2_with fail;((with_reducible refine (HC.out _).mono ?_));rintro en w1 ⟨rfl,hb,ht⟩;have HB:=Za hb;have HT:=Za ht;clear hb ht HC;go_wp2_with fail;go_end0;exact ⟨(below_drewN Zb _).trans HT.out,rfl,HB.out⟩
end
section
open Go.RowKit
attribute [local go_sem] ByteArray.mk_append_mk Qah Qai Qag SameB.some SameB.all
structure RdG (B b:Nat) (w:World) (s:List UInt8) (pos e:Int) (inner:Bool) (er at_:Int) (L:List Nd):Prop where
 ex:∃ nv,w.heap[b]?=some (rdO s pos e inner nv er at_)/\NodesI w B nv L
 base:B<=b
 size:B<=w.heap.size
theorem RdSt.gen {B b:Nat} {w:World} {s:List UInt8} {pos e:Nat} {inner:Bool} {o:List Nd} (h:RdSt B b w s pos e inner o):RdG B b w s pos e inner 0 0 o:=⟨h.ex,h.base,h.size⟩
theorem RdG.st {B b:Nat} {w:World} {s:List UInt8} {pos e:Nat} {inner:Bool} {o:List Nd} (h:RdG B b w s pos e inner 0 0 o):RdSt B b w s pos e inner o:=⟨h.ex,h.base,h.size⟩
theorem RdBad0.gen {B b q:Nat} {err:Int} {w:World} {o:List Nd} (h:RdBad0 B b q err w o):∃ s pos e inner,RdG B b w s pos e inner err q o/\(err=3\/err=4):=by
 obtain ⟨s,pos,e,inner,nv,h1,h2,h3,h4,h5⟩:=h;exact ⟨s,pos,e,inner,⟨⟨nv,h1,h2⟩,h4,h5⟩,h3⟩
theorem RdG.bad {B b q:Nat} {err pos e:Int} {w:World} {s:List UInt8} {inner:Bool} {o ms:List Nd} (h:RdG B b w s pos e inner err q (o++ms)) (he:err=3\/err=4):RdBad B b q err w o:=by
 obtain ⟨⟨nv,h1,h2⟩,h3,h4⟩:=h;exact ⟨s,pos,e,inner,nv,ms,h1,h2,he,h3,h4⟩
theorem RdG.below {B b:Nat} {w w':World} {s:List UInt8} {pos e er at_:Int} {inner:Bool} {L:List Nd} (h:RdG B b w s pos e inner er at_ L) (hb:Below w.heap.size w w'):RdG B b w' s pos e inner er at_ L:=by
 obtain ⟨⟨nv,h1,h2⟩,h3,h4⟩:=h;exact ⟨⟨nv,Qad h1 hb,h2.below hb⟩,h3,Nat.le_trans h4 hb.size⟩
theorem RdG.lt {B b:Nat} {w:World} {s:List UInt8} {pos e er at_:Int} {inner:Bool} {L:List Nd} (h:RdG B b w s pos e inner er at_ L):b<w.heap.size:=by
 obtain ⟨nv,h1,_⟩:=h.ex;exact lt_of_block h1
theorem RdG.setPos {B b:Nat} {w:World} {s:List UInt8} {pos e er at_:Int} {inner:Bool} {L:List Nd} (h:RdG B b w s pos e inner er at_ L) (z:Int):RdG B b (w.setCell ⟨b,1,none⟩ (.int .i64 z)) s z e inner er at_ L/\Below B w (w.setCell ⟨b,1,none⟩ (.int .i64 z)):=by
 obtain ⟨nv,h1,h2⟩:=h.ex;have hb:Below B w (w.setCell ⟨b,1,none⟩ (.int .i64 z)):=Zb.setCell h.base _;exact ⟨⟨⟨nv,heap_setCell_same _ _ 1 _ _ _ h1,QaA h2 _ _ (Qa6 h2 h1)⟩,h.base,Nat.le_trans h.size hb.size⟩,hb⟩
theorem RdG.grown {B b:Nat} {w w':World} {s:List UInt8} {pos e er at_:Int} {inner:Bool} {o o':List Nd} {nv u:Value} (h:RdG B b w s pos e inner er at_ o) (hb:w.heap[b]?=some (rdO s pos e inner nv er at_)) (hn:NodesI w B nv o) (hg:w.grownBy w' nv.ownBlock) (hu:NodesI w' B u o') :
  RdG B b (w'.setCell ⟨b,4,none⟩ u) s pos e inner er at_ o'/\Below B w (w'.setCell ⟨b,4,none⟩ u):=by
 have hB:Below B w w':=Zb.grown hg h.size (fun k hk=>QaN hn hk);have h1:w'.heap[b]?=some (rdO s pos e inner nv er at_):=(hg.block b (lt_of_block hb) (fun e=>Qa6 hn hb e.symm)).trans hb;have hB2:Below B w' (w'.setCell ⟨b,4,none⟩ u):=Zb.setCell h.base _;exact ⟨⟨⟨u,heap_setCell_same _ _ 4 _ _ _ h1,QaA hu _ _ (Qa6 hu h1)⟩,h.base,Nat.le_trans h.size (hB.trans hB2).size⟩,hB.trans hB2⟩
structure RdN (B b P:Nat) (w:World) (s:List UInt8) (pos e:Int) (inner:Bool) (nv:Value) (er at_:Int) (L:List Nd) (k n:Int) (x:List UInt8) (p:Int):Prop where
 blk:w.heap[b]?=some (rdO s pos e inner nv er at_)
 own:NodesI w B nv L
 box:w.heap[P]?=some (Qae k n x p)
 ne:nv.ownBlock≠some P
 hb:b≠P
 base:B<=b
 bP:B<=P
 size:B<=w.heap.size
theorem RdN.gen {B b P:Nat} {w:World} {s:List UInt8} {pos e er at_:Int} {inner:Bool} {nv:Value} {L:List Nd} {k n p:Int} {x:List UInt8} (h:RdN B b P w s pos e inner nv er at_ L k n x p):RdG B b w s pos e inner er at_ L:=⟨⟨nv,h.blk,h.own⟩,h.base,h.size⟩
theorem RdN.below {B b P:Nat} {w w':World} {s:List UInt8} {pos e er at_:Int} {inner:Bool} {nv:Value} {L:List Nd} {k n p:Int} {x:List UInt8} (h:RdN B b P w s pos e inner nv er at_ L k n x p) (hb:Below w.heap.size w w'):RdN B b P w' s pos e inner nv er at_ L k n x p :=
 ⟨Qad h.blk hb,h.own.below hb,Qad h.box hb,h.ne,h.hb,h.base,h.bP,Nat.le_trans h.size hb.size⟩
theorem RdSt.boxed {B b:Nat} {w:World} {s:List UInt8} {pos e:Nat} {inner:Bool} {o:List Nd} (h:RdSt B b w s pos e inner o) (k:Int):∃ nv,RdN B b w.heap.size (w.alloc (Qae k 0 [] 0)) s pos e inner nv 0 0 o k 0 [] 0:=by
 obtain ⟨nv,h1,h2⟩:=h.ex;have hal:Below w.heap.size w (w.alloc (Qae k 0 [] 0)):=Zb.alloc Zc _;exact ⟨nv,Qad h1 hal,h2.below hal,heap_alloc_new w _,fun hk=>Nat.lt_irrefl _ (Qfn h2 hk),Nat.ne_of_lt (lt_of_block h1),h.base,h.size,Nat.le_trans h.size hal.size⟩
theorem RdN.st {B b P:Nat} {w:World} {s:List UInt8} {pos e:Nat} {inner:Bool} {nv:Value} {L:List Nd} {k n p:Int} {x:List UInt8} (h:RdN B b P w s pos e inner nv 0 0 L k n x p):RdSt B b w s pos e inner L:=⟨⟨nv,h.blk,h.own⟩,h.base,h.size⟩
theorem RdN.setPos {B b P:Nat} {w:World} {s:List UInt8} {pos e er at_:Int} {inner:Bool} {nv:Value} {L:List Nd} {k n p:Int} {x:List UInt8} (h:RdN B b P w s pos e inner nv er at_ L k n x p) (z:Int):RdN B b P (w.setCell ⟨b,1,none⟩ (.int .i64 z)) s z e inner nv er at_ L k n x p/\Below B w (w.setCell ⟨b,1,none⟩ (.int .i64 z)):=by
 have hb:Below B w (w.setCell ⟨b,1,none⟩ (.int .i64 z)):=Zb.setCell h.base _;exact ⟨⟨heap_setCell_same _ _ 1 _ _ _ h.blk,QaA h.own _ _ (Qa6 h.own h.blk),(Below.heap_setCell _ _ _ _ (Ne.symm h.hb)).trans h.box,h.ne,h.hb,h.base,h.bP,Nat.le_trans h.size hb.size⟩,hb⟩
theorem RdN.setNum {B b P:Nat} {w:World} {s:List UInt8} {pos e er at_:Int} {inner:Bool} {nv:Value} {L:List Nd} {k n p:Int} {x:List UInt8} (h:RdN B b P w s pos e inner nv er at_ L k n x p) (z:Int):RdN B b P (w.setCell ⟨P,1,none⟩ (.int .u64 z)) s pos e inner nv er at_ L k z x p/\Below B w (w.setCell ⟨P,1,none⟩ (.int .u64 z)):=by
 have hb:Below B w (w.setCell ⟨P,1,none⟩ (.int .u64 z)):=Zb.setCell h.bP _;exact ⟨⟨(Below.heap_setCell _ _ _ _ h.hb).trans h.blk,QaA h.own _ _ h.ne,heap_setCell_same _ _ 1 _ _ _ h.box,h.ne,h.hb,h.base,h.bP,Nat.le_trans h.size hb.size⟩,hb⟩
theorem RdN.setStr {B b P:Nat} {w:World} {s:List UInt8} {pos e er at_:Int} {inner:Bool} {nv:Value} {L:List Nd} {k n p:Int} {x:List UInt8} (h:RdN B b P w s pos e inner nv er at_ L k n x p) (t:List UInt8):RdN B b P (w.setCell ⟨P,2,none⟩ (.string ⟨t.toArray⟩)) s pos e inner nv er at_ L k n t p/\Below B w (w.setCell ⟨P,2,none⟩ (.string ⟨t.toArray⟩)):=by
 have hb:Below B w (w.setCell ⟨P,2,none⟩ (.string ⟨t.toArray⟩)):=Zb.setCell h.bP _;exact ⟨⟨(Below.heap_setCell _ _ _ _ h.hb).trans h.blk,QaA h.own _ _ h.ne,heap_setCell_same _ _ 2 _ _ _ h.box,h.ne,h.hb,h.base,h.bP,Nat.le_trans h.size hb.size⟩,hb⟩
theorem RdN.failed {B b P q:Nat} {w w':World} {s:List UInt8} {pos e err:Int} {inner:Bool} {nv:Value} {L:List Nd} {k n p:Int} {x:List UInt8} (h:RdN B b P w s pos e inner nv 0 0 L k n x p) (hq:Only b w w') (hb:RdBad0 B b q err w' L):∃ s' pos' e' inner',RdN B b P w' s' pos' e' inner' nv err q L k n x p/\(err=3\/err=4):=by
 obtain ⟨s1,p1,e1,i1,nv1,k1,k2,k3,k4,k5⟩:=hb;obtain ⟨s2,p2,e2,i2,r2,a2,j1⟩:=hq.2.2 _ _ _ _ _ _ _ h.blk;obtain rfl:nv1=nv:=by
  have a:=(Qaj k1).2.2.2.2.1;rw [(Qaj j1).2.2.2.2.1] at a;exact (Option.some.inj a).symm
 exact ⟨s1,p1,e1,i1,⟨k1,k2,(hq.2.1 P (lt_of_block h.box) (Ne.symm h.hb)).trans h.box,h.ne,h.hb,k4,h.bP,k5⟩,k3⟩
end
end Go.Proofs.YtoohondkpddmcaaGreatDoor
