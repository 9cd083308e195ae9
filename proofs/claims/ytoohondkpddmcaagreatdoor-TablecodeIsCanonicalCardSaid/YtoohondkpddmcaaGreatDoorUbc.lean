/- Md Me Mf Mg Mh -/
import Derived.Test.YtoohondkpddmcaaGreatDoorUzz
import Derived.Test.YtoohondkpddmcaaGreatDoorUaz
import Derived.Test.YtoohondkpddmcaaGreatDoorUbb
import Derived.Test.YtoohondkpddmcaaGreatDoorUba
namespace Go.Proofs.YtoohondkpddmcaaGreatDoor
set_option linter.unusedVariables false
set_option linter.unusedSimpArgs false
section
open Go.RowKit
attribute [local go_sem] ByteArray.mk_append_mk Qac Qad Qae SameB.some SameB.all
end
section
open Go.RowKit
attribute [local go_sem] ByteArray.mk_append_mk Qac Qad Qae SameB.some SameB.all
end
section
open Go.RowKit
attribute [local go_sem] ByteArray.mk_append_mk Qac Qad Qae
def QtE (k:UInt8):Prop:=QaQ k=true->k=68\/k=83\/k=70\/k=73\/k=80
end
section
open Go.RowKit
attribute [local go_sem] ByteArray.mk_append_mk Qac Qad Qae
end
section
open Go.RowKit
attribute [local go_sem] ByteArray.mk_append_mk Qac Qad Qae
theorem RdG.kids {B b:Nat} {w:World} {s:List UInt8} {pos e er at_:Int} {inner:Bool} {o ns:List Nd} {a n:Int} {x:List UInt8} {p:Int} (h:RdG B b w s pos e inner er at_ (o++⟨a,n,x,p⟩::ns)) :
  ∃ g c,w.heap[b]?=some (rdO s pos e inner (.slice (some ⟨g,0,none⟩) (o++⟨a,n,x,p⟩::ns).length c) er at_)/\w.cell? ⟨g,o.length * 4+3,none⟩=some (.int .i64 p)/\w.frozen? ⟨g,o.length * 4+3,none⟩=false /\
    (∀ u:Int,RdG B b (w.setCell ⟨g,o.length * 4+3,none⟩ (.int .i64 u)) s pos e inner er at_ (o++⟨a,n,x,u⟩::ns)/\Below B w (w.setCell ⟨g,o.length * 4+3,none⟩ (.int .i64 u)))/\w.cell? ⟨g,o.length * 4+2,none⟩=some (.string ⟨x.toArray⟩)/\w.frozen? ⟨g,o.length * 4+2,none⟩=false /\
    (∀ u:List UInt8,RdG B b (w.setCell ⟨g,o.length * 4+2,none⟩ (.string ⟨u.toArray⟩)) s pos e inner er at_ (o++⟨a,n,u,p⟩::ns)/\Below B w (w.setCell ⟨g,o.length * 4+2,none⟩ (.string ⟨u.toArray⟩))):=by
 obtain ⟨⟨nv,h1,h3⟩,h4,h5⟩:=h;have hne:=Qgd h3 h1;obtain ⟨g,c,hnv,hB⟩:∃ g c,nv = .slice (some ⟨g,0,none⟩) (o++⟨a,n,x,p⟩::ns).length c/\B<=g:=by
  rcases h3.2 with ⟨_,h0⟩|⟨g,cap,cur,e,hb,_⟩
  ·simp at h0
  ·exact ⟨g,cap,e,hb⟩
 subst hnv;refine ⟨g,c,h1,?_,World.ownsRow.frozenAt h3 _,fun u=>?_,?_,World.ownsRow.frozenAt h3 _,fun u=>?_⟩
 ·rw [World.ownsRow.cellAt h3 _ (by simp;omega)];exact QkW o ns a n x p
 ·obtain ⟨k1,k2⟩:=World.ownsRow.stored h3 (o.length * 4+3) (.int .i64 u);rw [Qnd] at k1;have hL:(o++⟨a,n,x,p⟩::ns).length=(o++(⟨a,n,x,u⟩:Nd)::ns).length:=by simp
  have hb:Below B w (w.setCell ⟨g,o.length * 4+3,none⟩ (.int .i64 u)):=Zb.setCell hB _;rw [hL] at k1 h1;exact ⟨⟨⟨_,QbF h1 _ _ (fun e=>hne (by simp [Value.ownBlock,e])),k1⟩,h4,Nat.le_trans h5 hb.size⟩,hb⟩
 ·rw [World.ownsRow.cellAt h3 _ (by simp;omega)];exact Qmy o ns a n x p
 ·obtain ⟨k1,k2⟩:=World.ownsRow.stored h3 (o.length * 4+2) (.string ⟨u.toArray⟩);rw [Qor] at k1;have hL:(o++⟨a,n,x,p⟩::ns).length=(o++(⟨a,n,u,p⟩:Nd)::ns).length:=by simp
  have hb:Below B w (w.setCell ⟨g,o.length * 4+2,none⟩ (.string ⟨u.toArray⟩)):=Zb.setCell hB _;rw [hL] at k1 h1;exact ⟨⟨⟨_,QbF h1 _ _ (fun e=>hne (by simp [Value.ownBlock,e])),k1⟩,h4,Nat.le_trans h5 hb.size⟩,hb⟩
theorem RdBad.open {B b q:Nat} {err:Int} {w:World} {o ns:List Nd} {n:Nd} (h:RdBad B b q err w (o++n::ns)):∃ s pos e inner ms,RdG B b w s pos e inner err q (o++n::(ns++ms))/\(err=3\/err=4):=by
 obtain ⟨s,pos,e,inner,nv,ms,h1,h2,h3,h4,h5⟩:=h;rw [List.append_assoc,List.cons_append] at h2;exact ⟨s,pos,e,inner,ms,⟨⟨nv,h1,h2⟩,h4,h5⟩,h3⟩
theorem RdBad0.lt {B b q:Nat} {err:Int} {w:World} {o:List Nd} (h:RdBad0 B b q err w o):b<w.heap.size:=by
 obtain ⟨s,pos,e,inner,nv,h1,_⟩:=h;exact lt_of_block h1
def Qjb (w:World) (b n:Nat):Nat:=match w.cell? ⟨b,5,none⟩ with
 | some (.int _ z)=>if z=0 then (match w.cell? ⟨b,1,none⟩ with
   | some (.int _ p)=>n+1-p.toNat
   | _=>0) else 0
 | _=>0
theorem RdSt.meas {B b:Nat} {w:World} {s:List UInt8} {pos e:Nat} {inner:Bool} {o:List Nd} (h:RdSt B b w s pos e inner o) (n:Nat):Qjb w b n=n+1-pos:=by
 obtain ⟨nv,h1,_⟩:=h.ex;unfold Qjb;rw [(Qgc h1).2.2.2.2.2.1];simp only [if_true];rw [(Qgc h1).2.1];simp
theorem RdBad.meas {B b q:Nat} {err:Int} {w:World} {o:List Nd} (h:RdBad B b q err w o) (n:Nat):Qjb w b n=0:=by
 obtain ⟨s,pos,e,inner,nv,ms,h1,_,h3,_⟩:=h;unfold Qjb;rw [(Qgc h1).2.2.2.2.2.1];simp only [];rw [if_neg (by omega)]
end
end Go.Proofs.YtoohondkpddmcaaGreatDoor
