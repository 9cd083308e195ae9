/- Tkw Tkx Tlh Tli Fa Fb -/
import Derived.Test.YtoohondkpddmcaaGreatDoorUzz
import Derived.Test.YtoohondkpddmcaaGreatDoorUaj
namespace Go.Proofs.YtoohondkpddmcaaGreatDoor
set_option linter.unusedVariables false
set_option linter.unusedSimpArgs false
section
open Go.RowKit
end
section
open Go.RowKit
end
section
open Go.RowKit
end
section
open Go.RowKit
end
section
open Go.RowKit
abbrev PT:=List (List UInt8×TokI)
def QwX (L:PT):List UInt8:=L.flatMap fun x=>x.1++Qxk x.2
def OkT (t:TokI):Prop:=Qv9 t=true/\0<=t.num/\t.num<=18446744073709551615
def QwY (s:List UInt8):Prop:=∀ D,Qa3 (s++D)=Qa3 D
def isP (t:TokI):Prop:=5<=t.kind/\t.kind<=9
def GoodP (tail:List UInt8):PT->Prop
 | []=>Qa3 tail=([],true)
 | x::r=>QwY x.1/\OkT x.2/\(isP x.2\/Brk (QwX r++tail))/\GoodP tail r
theorem GoodP.ok {tail:List UInt8}:∀ {L:PT},GoodP tail L->∀ x∈L,OkT x.2
 | [],_,x,h=>by cases h
 | y::r,hg,x,h=>by
   rcases List.mem_cons.1 h with rfl|h
   ·exact hg.2.1
   ·exact GoodP.ok hg.2.2.2 x h
end
section
open Go.RowKit
section
variable (sub:Bool->UInt8->Nat->Nat->List UInt8->PT×Nat)
end
section
variable {p:List Nd} {d:Nat}
end
theorem Qg4 {p:List Nd} {d:Nat} {k:UInt8} {i j:Nat} (h:Qan p (d+1) false k i=some j):∃ n ks,p[i]?=some n/\Qar k n.kind=true/\Qa5 n k=true/\QbH n=some ks/\QaT (fun k j=>Qan p d (QaQ k) k j) ks (i+1)=some j:=by
 rw [Qan] at h;cases hn:p[i]? with
 | none=>rw [hn] at h;cases h
 | some n =>
   rw [hn] at h;simp only [] at h;split at h
   ·next hx =>
    cases hk:QbH n with
    | none=>rw [hk] at h;cases h
    | some ks=>rw [hk] at h;exact ⟨n,ks,rfl,hx.1,hx.2,hk,h⟩
   ·cases h
theorem Qg5 {p:List Nd} {d:Nat} {k:UInt8} {i j:Nat} (h:Qan p (d+1) true k i=some j):∃ n,p[i]?=some n/\(n.kind=4/\n.num=0/\n.str=[]/\0<=n.pos)/\Qbn (Qan p d false k) n.pos.toNat (i+1)=some j:=by
 rw [Qan] at h;cases hn:p[i]? with
 | none=>rw [hn] at h;cases h
 | some n =>
   rw [hn] at h;simp only [] at h;split at h
   ·next hx=>exact ⟨n,rfl,hx,h⟩
   ·cases h
end
end Go.Proofs.YtoohondkpddmcaaGreatDoor
