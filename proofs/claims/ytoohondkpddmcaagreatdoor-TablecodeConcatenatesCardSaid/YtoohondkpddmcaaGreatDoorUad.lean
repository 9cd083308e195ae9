/- Byt Tki Tkj -/
import Derived.Test.YtoohondkpddmcaaGreatDoorUzz
import Derived.Test.YtoohondkpddmcaaGreatDoorUaa
import Derived.Test.YtoohondkpddmcaaGreatDoorUac
namespace Go.Proofs.YtoohondkpddmcaaGreatDoor
set_option linter.unusedVariables false
set_option linter.unusedSimpArgs false
section
open Go.RowKit
attribute [local go_sem] ByteArray.mk_append_mk Qac Qad Qae
theorem Qsu (w:World) (x:Int):Sem.run Tryz.prog (convert 48 9 (.slice (some ⟨w.heap.size,0,none⟩) 1 1)) (w.alloc (.cells #[.int .u8 x] 5)) = .ok (.string ⟨[UInt8.ofNat x.toNat].toArray⟩) (w.alloc (.cells #[.int .u8 x] 5)):=by
 rw [run_convert_bytes_string _ 48 9 5 _ _ _ Tryz.underlying48 Tryz.underlying5 Tryz.underlying9];rw [run_bytesToString _ _ 1 1 [x] (by simp [loadCells,go_sem])]<;>rfl
theorem QmU:(Tryz.prog.info? 5).map (fun i=>(i.zero,i.size,i.bytes))=some (some (.int .u8 0),1,1):=by kernel_rfl
def byV (l:List UInt8):List Value:=l.map fun b=>.int .u8 b.toNat
theorem QjZ (l:List UInt8):(byV l).length=l.length:=by unfold byV;exact List.length_map _
theorem Qug (w:World) (a:Addr) (n c:Nat) (l:List UInt8) (hn:l.length=n) (h:∀ j v,(byV l)[j]?=some v->w.cell? (a.add j)=some v) :
  Sem.run Tryz.prog (convert 48 9 (.slice (some a) n c)) w = .ok (.string ⟨l.toArray⟩) w:=by
 rw [run_convert_bytes_string _ 48 9 5 _ _ _ Tryz.underlying48 Tryz.underlying5 Tryz.underlying9];have hl:=run_loadCells_list (P:=Tryz.prog) w a ((l.map (fun b=>(b.toNat:Int))).map (Value.int .u8)) (by
  intro j v hj;apply h;simpa [byV,List.map_map] using hj)
 rw [List.length_map,List.length_map,hn] at hl;rw [run_bytesToString _ _ n c _ hl];have key:∀ (l:List UInt8) (r:ByteArray),(l.map (fun b=>(b.toNat:Int))).foldl (fun r n=>r.push (UInt8.ofNat n.toNat)) r=r++⟨l.toArray⟩:=by
  intro l;induction l with
  | nil=>intro r;simp;apply ByteArray.ext;simp [ByteArray.data_append]
  | cons x l ih =>
    intro r;simp only [List.map_cons,List.foldl_cons,ih];apply ByteArray.ext;simp [ByteArray.data_append,ByteArray.data_push]
 rw [key]
 congr 2
theorem QoY (w:World):Sem.run Tryz.prog (convert 48 9 (.slice none 0 0)) w = .ok (.string ⟨([]:List UInt8).toArray⟩) w:=by kernel_rfl
def Bytes (w:World) (B:Nat) (v:Value) (l:List UInt8):Prop:=w.ownsRow B 5 1 v l.length (byV l)
theorem Bytes.nil (w:World) (B:Nat):Bytes w B (.slice none 0 0) []:=⟨rfl,.inl ⟨rfl,rfl⟩⟩
theorem Bytes.form {w:World} {B:Nat} {v:Value} {l:List UInt8} (h:Bytes w B v l):∃ a c,v = .slice a l.length c:=by
 rcases h.2 with ⟨rfl,h0⟩|⟨g,cap,cur,rfl,_⟩
 ·exact ⟨none,0,by rw [h0]⟩
 ·exact ⟨_,cap,rfl⟩
theorem Bytes.conv {w:World} {B:Nat} {v:Value} {l:List UInt8} (h:Bytes w B v l):Sem.run Tryz.prog (convert 48 9 v) w = .ok (.string ⟨l.toArray⟩) w:=by
 have ho:w.ownsRow B 5 1 v l.length (byV l):=h;rcases h.2 with ⟨rfl,h0⟩|⟨g,cap,cur,rfl,_⟩
 ·have:l=[]:=List.eq_nil_of_length_eq_zero h0;subst this;exact QoY w
 ·refine Qug w _ _ _ l rfl fun j u hj=>?_;have hlt:j<l.length:=by
   have:=(List.getElem?_eq_some_iff.1 hj).1
   rwa [QjZ] at this
  have h1:=ho.cellAt j (by omega);rw [hj] at h1;by_cases h0:j=0
  ·subst h0;simpa [Addr.add] using h1
  ·simpa [Addr.add,h0] using h1
theorem Bytes.below {w w':World} {B:Nat} {v:Value} {l:List UInt8} (h:Bytes w B v l) (hb:Below w.heap.size w w'):Bytes w' B v l:=QbY h hb
theorem Bytes.kept {w w1 w2:World} {B B0:Nat} {v:Value} {l:List UInt8} (ho:Bytes w1 B v l) (h:Below B0 w w1) (hg:w1.grownBy w2 v.ownBlock) (hB:B0<=w1.heap.size) (hB2:B0<=B):Below B0 w w2 :=
 h.grown hg hB (fun k hk=>Nat.le_trans hB2 (Qap ho hk))
def BArg (w:World) (v:Value) (l:List UInt8):Prop :=
 ∃ (a:Option Addr) (cap:Nat),v = .slice a l.length cap/\l.length<=140737488351232/\(l≠[]->∃ b off,a=some ⟨b,off,none⟩/\∀ k (h:k<l.length),w.cell? ⟨b,off+k,none⟩=some (.int .u8 l[k].toNat))
theorem BArg.below {w w':World} {v:Value} {l:List UInt8} (h:BArg w v l) (hb:Below w.heap.size w w'):BArg w' v l:=by
 obtain ⟨a,cap,hv,hl,hc⟩:=h;refine ⟨a,cap,hv,hl,fun hn=>?_⟩;obtain ⟨b,off,ha,hk⟩:=hc hn;have hp:0<l.length:=List.length_pos_iff.2 hn;have hlt:b<w.heap.size:=World.block_lt_of_cell? w ⟨b,off+0,none⟩ (hk 0 hp);refine ⟨b,off,ha,fun k h=>?_⟩;rw [hb.cell (p:=⟨b,off+k,none⟩) hlt];exact hk k h
end
section
open Go.RowKit
attribute [local go_sem] ByteArray.mk_append_mk Qac Qad Qae
def Qke:List UInt8->Option (UInt8×Nat)
 | _::34::_=>some (34,2)
 | _::92::_=>some (92,2)
 | _::120::h::l::_=>match QcM h,QcM l with
   | some a,some b=>some (UInt8.ofNat (a * 16+b),4)
   | _,_=>none
 | _=>none
theorem QlW (r v:List UInt8):Qbp (92::r) v=match Qke (92::r) with
  | some (b,n)=>Qbp ((92::r).drop n) (v++[b])
  | none=>none:=by
 generalize hE:Qke (92::r)=E;unfold Qke at hE;split at hE
 ·next heq=>injection heq with _ h;subst h hE;rw [Qbp];rfl
 ·next heq=>injection heq with _ h;subst h hE;rw [Qbp];rfl
 ·next h l t heq =>
  injection heq with _ h';subst h' hE;rw [Qbp];cases QcM h with
  | none=>rfl
  | some x=>cases QcM l with
    | none=>rfl
    | some y=>rfl
 ·next h1 h2 h3 =>
  subst hE;rw [Qbp]
  ·intro t h;subst h;exact h1 _ _ rfl
  ·intro t h;subst h;exact h2 _ _ rfl
  ·intro a b t h;subst h;exact h3 _ _ _ _ rfl
theorem Qjo {c:UInt8} {r v:List UInt8} (h1:c≠34) (h2:c≠92):Qbp (c::r) v=if 32<=c.toNat/\c.toNat<=126 then Qbp r (v++[c]) else none:=by
 rw [Qbp]
 ·intro h;exact h1 h
 all_goals (intros;simp_all)
theorem Qjp (r v:List UInt8):Qbp (34::r) v=if 255<v.length then none else some (v,r):=by rw [Qbp]
theorem QaX (b d:UInt8) (n:Int) (hn:(d.toNat:Int)=n):(b=d/\((b.toNat:Int)==n)=true)\/(b≠d/\((b.toNat:Int)==n)=false):=by
 subst hn;by_cases h:b=d
 ·left;subst h;exact ⟨rfl,by simp⟩
 ·right;exact ⟨h,by rw [Qg2,beq_eq_false_iff_ne];exact fun h'=>h h'.symm⟩
def Qxe (o1 o2:Option Nat):Option (UInt8×Nat):=match o1,o2 with
 | some x,some y=>some (UInt8.ofNat (x * 16+y),4)
 | _,_=>none
theorem QoZ {a b:UInt8} {r:List UInt8} (h1:b≠34) (h2:b≠92) (h3:b≠120):Qke (a::b::r)=none:=by
 unfold Qke;split
 ·next heq=>injection heq with _ h;injection h with h _;exact absurd h h1
 ·next heq=>injection heq with _ h;injection h with h _;exact absurd h h2
 ·next heq=>injection heq with _ h;injection h with h _;exact absurd h h3
 ·rfl
theorem Qo0 {a:UInt8} {r:List UInt8} (h:r.length<2):Qke (a::120::r)=none:=by
 unfold Qke;split
 ·next heq=>injection heq with _ h;injection h with h _;cases h
 ·next heq=>injection heq with _ h;injection h with h _;cases h
 ·next heq=>injection heq with _ h';injection h' with _ h';subst h';simp only [List.length_cons] at h;omega
 ·rfl
theorem Qnz (a h l:UInt8) (r:List UInt8):Qke (a::120::h::l::r)=Qxe (QcM h) (QcM l):=rfl
end
section
open Go.RowKit
attribute [local go_sem] ByteArray.mk_append_mk Qac Qad Qae
theorem Bytes.alloc {w:World} {B:Nat} {v:Value} {l:List UInt8} (h:Bytes w B v l) (o:Obj):Bytes (w.alloc o) B v l:=h.below (Zb.alloc Zc o)
theorem Quh {s:List UInt8} {b:UInt8} {n:Nat} (h:Qke s=some (b,n)):1<=n/\n<=s.length:=by
 unfold Qke at h;split at h
 ·injection h with h;injection h with _ h;subst h;simp
 ·injection h with h;injection h with _ h;subst h;simp
 ·split at h
  ·injection h with h;injection h with _ h;subst h;simp
  ·cases h
 ·cases h
def QwR (o:Option (UInt8×Nat)) (s l:List UInt8):Option (List UInt8×List UInt8):=match o with
 | some (b,n)=>Qbp (s.drop n) (l++[b])
 | none=>none
theorem QgC (r v:List UInt8):Qbp (92::r) v=QwR (Qke (92::r)) (92::r) v:=QlW r v
theorem QqX {s v:List UInt8} {p:Nat} (h:s.length<=p):Qbp (s.drop p) v=none:=by
 rw [List.drop_eq_nil_of_le h];rfl
theorem Qh9 {s:List UInt8} {p:Nat} (h:p<s.length) (v:List UInt8):Qbp (s.drop p) v=Qbp (s[p]::s.drop (p+1)) v:=by
 rw [List.drop_eq_getElem_cons h]
end
end Go.Proofs.YtoohondkpddmcaaGreatDoor
