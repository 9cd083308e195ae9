/- Short names. -/
import Derived.Test.YtoohondkpddmcaaGreatDoorProg
import Derived.WalkKit
import Derived.Lib.Hide
import Derived.Below
namespace Go
theorem Za {p:Prop} (h:p):Go.RowKit.Hid p:=Lib.hid h
theorem Zb {B:Nat} {w:Go.World}:Go.RowKit.Below B w w:=Go.RowKit.Below.refl B w
theorem Zc {n:Nat}:n<=n:=Nat.le_refl n
theorem Zd {α:Type _} [BEq α] [LawfulBEq α] {a b:α} (h:a≠b):(a==b)=false:=beq_eq_false_iff_ne.2 h
theorem pQ1 {α:Type _} {a:α} {l:List α} {i:Nat}:(a::l).drop (i+1)=l.drop i:=List.drop_succ_cons
theorem pQ2 {α:Type _} {l:List α}:l.drop 0=l:=List.drop_zero
theorem pQ3 {α:Type _} {a:α} {l:List α} {i:Nat}:(a::l).take (i+1)=a::l.take i:=List.take_succ_cons
theorem pQ4 {α:Type _} {l:List α}:l.take 0=[]:=List.take_zero
theorem pQ5 {α:Type _} {a:α} {l m:List α}:a::l++m=a::(l++m):=List.cons_append
theorem pQ6 {α:Type _} (l:List α):[]++l=l:=List.nil_append l
end Go
