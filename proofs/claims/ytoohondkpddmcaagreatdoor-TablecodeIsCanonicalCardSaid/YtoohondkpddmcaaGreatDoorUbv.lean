/- Fd -/
import Derived.Test.YtoohondkpddmcaaGreatDoorUzz
import Derived.Test.YtoohondkpddmcaaGreatDoorUaw
import Derived.Test.YtoohondkpddmcaaGreatDoorUbh
namespace Go.Proofs.YtoohondkpddmcaaGreatDoor
set_option linter.unusedVariables false
set_option linter.unusedSimpArgs false
open Go.RowKit
def BM (T:List TokI) (L:PT):Prop:=T.map Ql3=L.map fun x=>Ql3 x.2
theorem BM.app {T:List TokI} {A B:PT} (h:BM T (A++B)):∃ T1 T2,T=T1++T2/\BM T1 A/\BM T2 B:=by
 unfold BM at h;rw [List.map_append] at h;obtain ⟨T1,T2,e,h1,h2⟩:=List.map_eq_append_iff.1 h;exact ⟨T1,T2,e,h1,h2⟩
theorem BM.cons {T:List TokI} {x:List UInt8×TokI} {B:PT} (h:BM T (x::B)):∃ t T',T=t::T'/\Ql3 t=Ql3 x.2/\BM T' B:=by
 cases T with
 | nil=>cases h
 | cons t T' =>
   unfold BM at h;rw [List.map_cons,List.map_cons] at h;injection h with h1 h2;exact ⟨t,T',rfl,h1,h2⟩
theorem BM.nil {T:List TokI} (h:BM T []):T=[]:=by
 cases T with
 | nil=>rfl
 | cons t T'=>cases h
theorem BM.one {T:List TokI} {x:List UInt8×TokI} (h:BM T [x]):∃ t,T=[t]/\Ql3 t=Ql3 x.2:=by
 obtain ⟨t,T',rfl,h1,h2⟩:=h.cons;exact ⟨t,by rw [h2.nil],h1⟩
def seg (p:List Nd) (i j:Nat):List Nd:=(p.drop i).take (j-i)
theorem Qj9 (p:List Nd) (i:Nat):seg p i i=[]:=by unfold seg;rw [Nat.sub_self,List.take_zero]
theorem QiM (p:List Nd) {i j k:Nat} (h1:i<=j) (h2:j<=k):seg p i j++seg p j k=seg p i k:=by
 unfold seg;rw [show k-i=(j-i)+(k-j) by omega,List.take_add,List.drop_drop,show i+(j-i)=j by omega]
theorem QqD {p:List Nd} {i:Nat} {n:Nd} (h:p[i]?=some n):seg p i (i+1)=[n]:=by
 obtain ⟨hi,e⟩:=List.getElem?_eq_some_iff.1 h;unfold seg;rw [List.drop_eq_getElem_cons hi,show i+1-i=1 by omega,List.take_succ_cons,List.take_zero,e]
theorem QoP {p:List Nd} {i j:Nat} {n:Nd} (h:p[i]?=some n) (hj:i+1<=j):seg p i j=n::seg p (i+1) j:=by
 rw [<- QiM p (Nat.le_succ i) hj,QqD h];rfl
section
variable (p:List Nd) (d:Nat)
end
end Go.Proofs.YtoohondkpddmcaaGreatDoor
