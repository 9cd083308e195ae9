/- Tld Tlf Tlg Tkv Tkw Tkx -/
import Derived.Test.YtoohondkpddmcaaGreatDoorYzz
import Derived.Test.YtoohondkpddmcaaGreatDoorYak
import Derived.Test.YtoohondkpddmcaaGreatDoorYah
import Derived.Test.YtoohondkpddmcaaGreatDoorYag
namespace Go.Proofs.YtoohondkpddmcaaGreatDoor
set_option linter.unusedVariables false
set_option linter.unusedSimpArgs false
section
open Go.RowKit
attribute [local go_sem] ByteArray.mk_append_mk Qah Qai Qag
def TAtK (w:World) (b off:Nat) (t:TokI):Prop:=w.cell? ⟨b,off,none⟩=some (.int .i64 t.kind)/\w.cell? ⟨b,off+1,none⟩=some (.int .u64 t.num)/\w.cell? ⟨b,off+2,none⟩=some (.string ⟨t.str.toArray⟩)/\w.cell? ⟨b,off+3,none⟩=some (.int .i64 t.pos)
def TSl (w:World) (v:Value) (l:List TokI):Prop :=
 ∃ (a:Option Addr) (cap:Nat),v = .slice a l.length cap/\(l≠[]->∃ b off,a=some ⟨b,off,none⟩/\∀ i (h:i<l.length),TAtK w b (off+i * 4) l[i])
theorem TAtK.below {w w':World} {b off:Nat} {t:TokI} (h:TAtK w b off t) (hb:Below w.heap.size w w'):TAtK w' b off t:=by
 obtain ⟨h0,h1,h2,h3⟩:=h;have hlt:b<w.heap.size:=World.block_lt_of_cell? w ⟨b,off,none⟩ h0;refine ⟨?_,?_,?_,?_⟩
 ·rw [hb.cell (p:=⟨b,off,none⟩) hlt];exact h0
 ·rw [hb.cell (p:=⟨b,off+1,none⟩) hlt];exact h1
 ·rw [hb.cell (p:=⟨b,off+2,none⟩) hlt];exact h2
 ·rw [hb.cell (p:=⟨b,off+3,none⟩) hlt];exact h3
theorem TSl.below {w w':World} {v:Value} {l:List TokI} (h:TSl w v l) (hb:Below w.heap.size w w'):TSl w' v l:=by
 obtain ⟨a,cap,hv,hc⟩:=h;refine ⟨a,cap,hv,fun hn=>?_⟩;obtain ⟨b,off,ha,hk⟩:=hc hn;exact ⟨b,off,ha,fun i hi=>(hk i hi).below hb⟩
def tcK:List TokI->List Value
 | []=>[]
 | t::r=>.int .i64 t.kind::.int .u64 t.num::.string ⟨t.str.toArray⟩::.int .i64 t.pos::tcK r
theorem Qoq:∀ l:List Tok,tcK (l.map Tok.toI)=QbM l
 | []=>rfl
 | t::r=>by rw [List.map_cons,tcK,Qoq r];rfl
theorem QqX:∀ (l:List TokI) (i:Nat) (h:i<l.length),(tcK l)[i * 4]?=some (.int .i64 l[i].kind)/\(tcK l)[i * 4+1]?=some (.int .u64 l[i].num)/\(tcK l)[i * 4+2]?=some (.string ⟨l[i].str.toArray⟩)/\(tcK l)[i * 4+3]?=some (.int .i64 l[i].pos)
 | t::r,0,_=>⟨rfl,rfl,rfl,rfl⟩
 | t::r,i+1,h=>by
   have:=QqX r i (by simpa using h);rw [show (i+1) * 4=i * 4+4 by omega];exact this
def ToksI (w:World) (B:Nat) (v:Value) (l:List TokI):Prop:=w.ownsRow B 34 4 v l.length (tcK l)
theorem ToksI.nil (w:World) (B:Nat):ToksI w B (.slice none 0 0) []:=⟨rfl,.inl ⟨rfl,rfl⟩⟩
theorem ToksI.below {w w':World} {B:Nat} {v:Value} {l:List TokI} (h:ToksI w B v l) (hb:Below w.heap.size w w'):ToksI w' B v l:=QbH h hb
theorem ToksI.alloc {w:World} {B:Nat} {v:Value} {l:List TokI} (h:ToksI w B v l) (o:Obj):ToksI (w.alloc o) B v l:=h.below (Zb.alloc Zc o)
theorem ToksI.form {w:World} {B:Nat} {v:Value} {l:List TokI} (h:ToksI w B v l):∃ a c,v = .slice a l.length c:=by
 rcases h.2 with ⟨rfl,h0⟩|⟨g,cap,cur,rfl,_⟩
 ·exact ⟨none,0,by rw [h0]⟩
 ·exact ⟨_,cap,rfl⟩
theorem ToksI.kept {w w1 w2:World} {B B0:Nat} {v:Value} {l:List TokI} (ho:ToksI w1 B v l) (h:Below B0 w w1) (hg:w1.grownBy w2 v.ownBlock) (hB:B0<=w1.heap.size) (hB2:B0<=B):Below B0 w w2 :=
 h.grown hg hB (fun k hk=>Nat.le_trans hB2 (QaN ho hk))
theorem Toks.toI {w:World} {B:Nat} {v:Value} {l:List Tok} (h:Toks w B v l):ToksI w B v (l.map Tok.toI):=by
 unfold ToksI;rw [Qoq,List.length_map];exact h
theorem ToksI.sl {w:World} {B:Nat} {v:Value} {l:List TokI} (h:ToksI w B v l):TSl w v l:=by
 obtain ⟨a,c,rfl⟩:=h.form;refine ⟨a,c,rfl,fun hn=>?_⟩;obtain ⟨h1,h2⟩:=h;have hp:=List.length_pos_iff.2 hn;rcases h2 with ⟨hv,h0⟩|⟨g,cap,cur,hv,hb,hg,hn,hm,hs,ht⟩
 ·omega
 ·injection hv with e1 e2 e3;refine ⟨g,0,e1,fun i hi=>?_⟩;obtain ⟨k0,k1,k2,k3⟩:=QqX l i hi;rw [<- ht] at k0 k1 k2 k3;rw [List.getElem?_take,if_pos (by omega)] at k0 k1 k2 k3;rw [Nat.zero_add];refine ⟨?_,?_,?_,?_⟩
  ·rw [cell_of_row w g _ cur _ (0,0) hg];simpa using k0
  ·rw [cell_of_row w g _ cur _ (0,0) hg];simpa using k1
  ·rw [cell_of_row w g _ cur _ (0,0) hg];simpa using k2
  ·rw [cell_of_row w g _ cur _ (0,0) hg];simpa using k3
end
section
open Go.RowKit
attribute [local go_sem] ByteArray.mk_append_mk Qah Qai Qag
def nmB (s:List UInt8):Bool:=decide (Qcq s=some s.length)
def kwB:List UInt8->Bool
 | []=>false
 | c::r=>decide ((c::r).length<=32)&&(QaC c&&(decide (Qbd (c::r)=(c::r).length)&&Qb8 (c::r)))
def Quv (t:TokI):Bool:=if t.kind=1 then nmB t.str else if t.kind=2 then kwB t.str else if t.kind=4 then decide (t.str.length<=255) else decide (t.kind=3\/(5<=t.kind/\t.kind<=9))
end
section
open Go.RowKit
attribute [local go_sem] ByteArray.mk_append_mk Qah Qai Qag
def QvH (k:Int):List UInt8:=if k=5 then [40] else if k=6 then [41] else if k=7 then [123] else if k=8 then [125] else [44]
def QvI (t:TokI):List UInt8:=if t.kind=1\/t.kind=2 then t.str else if t.kind=3 then QvD t.num.toNat else if t.kind=4 then QvG t.str else QvH t.kind
theorem TSl.one {w:World} {v:Value} {t:TokI} (h:TSl w v [t]):∃ b off cap,v = .slice (some ⟨b,off,none⟩) 1 cap/\∀ w',Below w.heap.size w w'->TAtK w' b off t:=by
 obtain ⟨a,cap,hv,hc⟩:=h;obtain ⟨b,off,rfl,hk⟩:=hc (by simp);refine ⟨b,off,cap,hv,fun w' hb=>?_⟩;have:=(hk 0 (by simp)).below hb;simpa using this
end
section
open Go.RowKit
def Brk (y:List UInt8):Prop:=∀ c r,y=c::r->idB c=false/\c≠46/\c≠94
theorem Brk.nil:Brk []:=fun c r h=>by cases h
end
section
open Go.RowKit
end
section
open Go.RowKit
end
end Go.Proofs.YtoohondkpddmcaaGreatDoor
