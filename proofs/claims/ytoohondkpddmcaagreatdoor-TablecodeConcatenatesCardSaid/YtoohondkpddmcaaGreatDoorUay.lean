/- Lz Ma Mb -/
import Derived.Test.YtoohondkpddmcaaGreatDoorUzz
import Derived.Test.YtoohondkpddmcaaGreatDoorUax
import Derived.Test.YtoohondkpddmcaaGreatDoorUau
namespace Go.Proofs.YtoohondkpddmcaaGreatDoor
set_option linter.unusedVariables false
set_option linter.unusedSimpArgs false
section
open Go.RowKit
attribute [local go_sem] ByteArray.mk_append_mk Qac Qad Qae
end
section
open Go.RowKit
attribute [local go_sem] ByteArray.mk_append_mk Qac Qad Qae
theorem RdBad.cells {B b q:Nat} {err:Int} {w:World} {o:List Nd} (h:RdBad B b q err w o):∃ (s:List UInt8) (pos e:Int) (inner:Bool) (nv:Value) (ms:List Nd),w.heap[b]?=some (rdO s pos e inner nv err q)/\NodesI w B nv (o++ms)/\(err=3\/err=4)/\B<=b/\B<=w.heap.size:=h
end
section
open Go.RowKit
attribute [local go_sem] ByteArray.mk_append_mk Qac Qad Qae SameB.some SameB.all
structure RdG (B b:Nat) (w:World) (s:List UInt8) (pos e:Int) (inner:Bool) (er at_:Int) (L:List Nd):Prop where
 ex:∃ nv,w.heap[b]?=some (rdO s pos e inner nv er at_)/\NodesI w B nv L
 base:B<=b
 size:B<=w.heap.size
theorem RdG.st {B b:Nat} {w:World} {s:List UInt8} {pos e:Nat} {inner:Bool} {o:List Nd} (h:RdG B b w s pos e inner 0 0 o):RdSt B b w s pos e inner o:=⟨h.ex,h.base,h.size⟩
theorem RdG.bad {B b q:Nat} {err pos e:Int} {w:World} {s:List UInt8} {inner:Bool} {o ms:List Nd} (h:RdG B b w s pos e inner err q (o++ms)) (he:err=3\/err=4):RdBad B b q err w o:=by
 obtain ⟨⟨nv,h1,h2⟩,h3,h4⟩:=h;exact ⟨s,pos,e,inner,nv,ms,h1,h2,he,h3,h4⟩
theorem RdG.below {B b:Nat} {w w':World} {s:List UInt8} {pos e er at_:Int} {inner:Bool} {L:List Nd} (h:RdG B b w s pos e inner er at_ L) (hb:Below w.heap.size w w'):RdG B b w' s pos e inner er at_ L:=by
 obtain ⟨⟨nv,h1,h2⟩,h3,h4⟩:=h;exact ⟨⟨nv,Qab h1 hb,h2.below hb⟩,h3,Nat.le_trans h4 hb.size⟩
theorem RdG.lt {B b:Nat} {w:World} {s:List UInt8} {pos e er at_:Int} {inner:Bool} {L:List Nd} (h:RdG B b w s pos e inner er at_ L):b<w.heap.size:=by
 obtain ⟨nv,h1,_⟩:=h.ex;exact lt_of_block h1
theorem RdG.setPos {B b:Nat} {w:World} {s:List UInt8} {pos e er at_:Int} {inner:Bool} {L:List Nd} (h:RdG B b w s pos e inner er at_ L) (z:Int):RdG B b (w.setCell ⟨b,1,none⟩ (.int .i64 z)) s z e inner er at_ L/\Below B w (w.setCell ⟨b,1,none⟩ (.int .i64 z)):=by
 obtain ⟨nv,h1,h2⟩:=h.ex;have hb:Below B w (w.setCell ⟨b,1,none⟩ (.int .i64 z)):=Zb.setCell h.base _;exact ⟨⟨⟨nv,heap_setCell_same _ _ 1 _ _ _ h1,Qa6 h2 _ _ (Qgd h2 h1)⟩,h.base,Nat.le_trans h.size hb.size⟩,hb⟩
theorem RdG.grown {B b:Nat} {w w':World} {s:List UInt8} {pos e er at_:Int} {inner:Bool} {o o':List Nd} {nv u:Value} (h:RdG B b w s pos e inner er at_ o) (hb:w.heap[b]?=some (rdO s pos e inner nv er at_)) (hn:NodesI w B nv o) (hg:w.grownBy w' nv.ownBlock) (hu:NodesI w' B u o') :
  RdG B b (w'.setCell ⟨b,4,none⟩ u) s pos e inner er at_ o'/\Below B w (w'.setCell ⟨b,4,none⟩ u):=by
 have hB:Below B w w':=Zb.grown hg h.size (fun k hk=>Qap hn hk);have h1:w'.heap[b]?=some (rdO s pos e inner nv er at_):=(hg.block b (lt_of_block hb) (fun e=>Qgd hn hb e.symm)).trans hb;have hB2:Below B w' (w'.setCell ⟨b,4,none⟩ u):=Zb.setCell h.base _;exact ⟨⟨⟨u,heap_setCell_same _ _ 4 _ _ _ h1,Qa6 hu _ _ (Qgd hu h1)⟩,h.base,Nat.le_trans h.size (hB.trans hB2).size⟩,hB.trans hB2⟩
structure RdN (B b P:Nat) (w:World) (s:List UInt8) (pos e:Int) (inner:Bool) (nv:Value) (er at_:Int) (L:List Nd) (k n:Int) (x:List UInt8) (p:Int):Prop where
 blk:w.heap[b]?=some (rdO s pos e inner nv er at_)
 own:NodesI w B nv L
 box:w.heap[P]?=some (Qaj k n x p)
 ne:nv.ownBlock≠some P
 hb:b≠P
 base:B<=b
 bP:B<=P
 size:B<=w.heap.size
theorem RdN.below {B b P:Nat} {w w':World} {s:List UInt8} {pos e er at_:Int} {inner:Bool} {nv:Value} {L:List Nd} {k n p:Int} {x:List UInt8} (h:RdN B b P w s pos e inner nv er at_ L k n x p) (hb:Below w.heap.size w w'):RdN B b P w' s pos e inner nv er at_ L k n x p :=
 ⟨Qab h.blk hb,h.own.below hb,Qab h.box hb,h.ne,h.hb,h.base,h.bP,Nat.le_trans h.size hb.size⟩
theorem RdN.st {B b P:Nat} {w:World} {s:List UInt8} {pos e:Nat} {inner:Bool} {nv:Value} {L:List Nd} {k n p:Int} {x:List UInt8} (h:RdN B b P w s pos e inner nv 0 0 L k n x p):RdSt B b w s pos e inner L:=⟨⟨nv,h.blk,h.own⟩,h.base,h.size⟩
theorem RdN.setPos {B b P:Nat} {w:World} {s:List UInt8} {pos e er at_:Int} {inner:Bool} {nv:Value} {L:List Nd} {k n p:Int} {x:List UInt8} (h:RdN B b P w s pos e inner nv er at_ L k n x p) (z:Int):RdN B b P (w.setCell ⟨b,1,none⟩ (.int .i64 z)) s z e inner nv er at_ L k n x p/\Below B w (w.setCell ⟨b,1,none⟩ (.int .i64 z)):=by
 have hb:Below B w (w.setCell ⟨b,1,none⟩ (.int .i64 z)):=Zb.setCell h.base _;exact ⟨⟨heap_setCell_same _ _ 1 _ _ _ h.blk,Qa6 h.own _ _ (Qgd h.own h.blk),(Below.heap_setCell _ _ _ _ (Ne.symm h.hb)).trans h.box,h.ne,h.hb,h.base,h.bP,Nat.le_trans h.size hb.size⟩,hb⟩
theorem RdN.failed {B b P q:Nat} {w w':World} {s:List UInt8} {pos e err:Int} {inner:Bool} {nv:Value} {L:List Nd} {k n p:Int} {x:List UInt8} (h:RdN B b P w s pos e inner nv 0 0 L k n x p) (hq:Only b w w') (hb:RdBad0 B b q err w' L):∃ s' pos' e' inner',RdN B b P w' s' pos' e' inner' nv err q L k n x p/\(err=3\/err=4):=by
 obtain ⟨s1,p1,e1,i1,nv1,k1,k2,k3,k4,k5⟩:=hb;obtain ⟨s2,p2,e2,i2,r2,a2,j1⟩:=hq.2.2 _ _ _ _ _ _ _ h.blk;obtain rfl:nv1=nv:=by
  have a:=(Qgc k1).2.2.2.2.1;rw [(Qgc j1).2.2.2.2.1] at a;exact (Option.some.inj a).symm
 exact ⟨s1,p1,e1,i1,⟨k1,k2,(hq.2.1 P (lt_of_block h.box) (Ne.symm h.hb)).trans h.box,h.ne,h.hb,k4,h.bP,k5⟩,k3⟩
end
end Go.Proofs.YtoohondkpddmcaaGreatDoor
