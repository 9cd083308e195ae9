/- Tlh Tli Fa Fb Bld -/
import Derived.Test.YtoohondkpddmcaaGreatDoorYzz
import Derived.Test.YtoohondkpddmcaaGreatDoorYal
import Derived.Test.YtoohondkpddmcaaGreatDoorYak
import Derived.Test.YtoohondkpddmcaaGreatDoorYaa
import Derived.Test.YtoohondkpddmcaaGreatDoorYab
namespace Go.Proofs.YtoohondkpddmcaaGreatDoor
set_option linter.unusedVariables false
set_option linter.unusedSimpArgs false
section
open Go.RowKit
end
section
open Go.RowKit
end
section
open Go.RowKit
abbrev PT:=List (List UInt8×TokI)
def Qvm (L:PT):List UInt8:=L.flatMap fun x=>x.1++QvI x.2
def OkT (t:TokI):Prop:=Quv t=true/\0<=t.num/\t.num<=18446744073709551615
def Qvn (s:List UInt8):Prop:=∀ D,QaQ (s++D)=QaQ D
def isP (t:TokI):Prop:=5<=t.kind/\t.kind<=9
def GoodP (tail:List UInt8):PT->Prop
 | []=>QaQ tail=([],true)
 | x::r=>Qvn x.1/\OkT x.2/\(isP x.2\/Brk (Qvm r++tail))/\GoodP tail r
theorem GoodP.ok {tail:List UInt8}:∀ {L:PT},GoodP tail L->∀ x∈L,OkT x.2
 | [],_,x,h=>by cases h
 | y::r,hg,x,h=>by
   rcases List.mem_cons.1 h with rfl|h
   ·exact hg.2.1
   ·exact GoodP.ok hg.2.2.2 x h
end
section
open Go.RowKit
section
variable (sub:Bool->UInt8->Nat->Nat->List UInt8->PT×Nat)
end
section
variable {p:List Nd} {d:Nat}
end
theorem QsK {p:List Nd} {d:Nat} {k:UInt8} {i j:Nat} (h:Qaz p (d+1) false k i=some j):∃ n ks,p[i]?=some n/\Qaq k n.kind=true/\Qbg n k=true/\Qb3 n=some ks/\QbC (fun k j=>Qaz p d (QaZ k) k j) ks (i+1)=some j:=by
 rw [Qaz] at h;cases hn:p[i]? with
 | none=>rw [hn] at h;cases h
 | some n =>
   rw [hn] at h;simp only [] at h;split at h
   ·next hx =>
    cases hk:Qb3 n with
    | none=>rw [hk] at h;cases h
    | some ks=>rw [hk] at h;exact ⟨n,ks,rfl,hx.1,hx.2,hk,h⟩
   ·cases h
theorem QsL {p:List Nd} {d:Nat} {k:UInt8} {i j:Nat} (h:Qaz p (d+1) true k i=some j):∃ n,p[i]?=some n/\(n.kind=4/\n.num=0/\n.str=[]/\0<=n.pos)/\Qb4 (Qaz p d false k) n.pos.toNat (i+1)=some j:=by
 rw [Qaz] at h;cases hn:p[i]? with
 | none=>rw [hn] at h;cases h
 | some n =>
   rw [hn] at h;simp only [] at h;split at h
   ·next hx=>exact ⟨n,rfl,hx,h⟩
   ·cases h
end
section
open Go.RowKit
def Bld (w:World) (B b:Nat) (l:List UInt8):Prop:=Lib.IsBuilder 71 5 B b (Lib.byteCells l) w/\B<=w.heap.size
theorem Bld.fresh (w:World):Bld (w.alloc (.cells #[.pointer none,.slice none 0 0] 71)) w.heap.size w.heap.size []:=⟨Lib.fresh_isBuilder _ _ _,by simp⟩
theorem QqY {T e B b:Nat} {p:Value} {bs:List Value} {w w':World} (h:Lib.BuilderAt T e B b p bs w) (hb:Below w.heap.size w w'):Lib.BuilderAt T e B b p bs w':=by
 obtain ⟨h1,v,h2,h3,h4⟩:=h;exact ⟨h1,v,Qad h2 hb,QbH h3 hb,h4⟩
theorem Bld.below {w w':World} {B b:Nat} {l:List UInt8} (h:Bld w B b l) (hb:Below w.heap.size w w'):Bld w' B b l:=by
 obtain ⟨h1,h2⟩:=h;exact ⟨h1.elim (fun h=>.inl (QqY h hb)) (fun h=>.inr (QqY h hb)),Nat.le_trans h2 hb.size⟩
theorem Qiw (B b:Nat) (l s:List UInt8) (w:World) (h:Bld w B b l) (hlen:l.length+s.length<=140737488355328) :
  Calls Tryz.prog 77 #[.pointer (some ⟨b,0,none⟩),.string ⟨s.toArray⟩] w fun e w'=>e = .returned (.tuple #[.int .i64 s.length,.nilIface])/\Bld w' B b (l++s)/\Below B w w' :=
 (Tryz.Builder_WriteString B b (Lib.byteCells l) ⟨s.toArray⟩ w h.1 (by rw [Lib.byteCells_length,ByteArray.size_mk',List.size_toArray];exact hlen) h.2).mono fun e w' ⟨he,hb,hw⟩=>⟨by rw [he,ByteArray.size_mk',List.size_toArray],⟨.inr (by rw [Lib.byteCells_append];exact hb),Nat.le_trans h.2 hw.size⟩,hw⟩
theorem QqZ (B b:Nat) (l:List UInt8) (c:UInt8) (w:World) (h:Bld w B b l) (hlen:l.length+1<=140737488355328) :
  Calls Tryz.prog 37 #[.pointer (some ⟨b,0,none⟩),.int .u8 c.toNat] w fun e w'=>e = .returned .nilIface/\Bld w' B b (l++[c])/\Below B w w' :=
 (Tryz.Builder_WriteByte B b (Lib.byteCells l) c.toNat w h.1 (by rw [Lib.byteCells_length];exact hlen) h.2).mono fun e w' ⟨he,hb,hw⟩=>⟨he,⟨.inr (by rw [Lib.byteCells_append];exact hb),Nat.le_trans h.2 hw.size⟩,hw⟩
theorem Qno (B b:Nat) (l:List UInt8) (w:World) (h:Bld w B b l) :
  Calls Tryz.prog 39 #[.pointer (some ⟨b,0,none⟩)] w fun e w'=>e = .returned (.string ⟨l.toArray⟩)/\Below B w w' :=
 Tryz.Builder_String_any B b l w h.1 h.2
theorem QiY (c:UInt8):∀ n,Lib.repeatL [c] n=List.replicate n c
 | 0=>rfl
 | n+1=>by rw [Lib.repeatL,QiY c n];rfl
theorem QiZ (c:UInt8) (n:Nat) (w:World) (hn:n<=140737488355328) :
  Calls Tryz.prog 188 #[.string ⟨#[c]⟩,.int .i64 n] w fun e w'=>∃ s:List UInt8,Hid (s=List.replicate n c)/\s.length=n/\e = .returned (.string ⟨s.toArray⟩)/\Below w.heap.size w w' :=
 (Tryz.strings_Repeat ⟨#[c]⟩ n w (by omega) (by rw [ByteArray.size_mk'];simpa using hn)).mono fun e w' ⟨he,hw⟩=>⟨List.replicate n c,Za rfl,List.length_replicate ..,by rw [he,<- QiY],hw⟩
end
end Go.Proofs.YtoohondkpddmcaaGreatDoor
