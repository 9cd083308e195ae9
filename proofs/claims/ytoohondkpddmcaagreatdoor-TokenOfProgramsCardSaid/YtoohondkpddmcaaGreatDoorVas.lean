/- Sa Sc -/
import Derived.Test.YtoohondkpddmcaaGreatDoorVan
import Derived.Test.YtoohondkpddmcaaGreatDoorVar
set_option linter.unusedVariables false
set_option linter.unusedSimpArgs false
namespace Go.Proofs.YtoohondkpddmcaaGreatDoor
section
open Go.RowKit
abbrev Nd:=TokI
def declT : List (List UInt8 × List UInt8):=[([83,99,111,112,101],[110,68]),([68,101,118,105,99,101],[115,68]),([80,111,119,101,114,82,101,115,111,117,114,99,101],[115,105,105,68]),([78,97,109,101],[115,100]),([77,101,116,104,111,100],[115,105,105,105,83]),([79,112,101,114,97,116,105,111,110,82,101,103,105,111,110],[115,105,105,105]),([70,105,101,108,100],[110,105,105,70]),([73,110,100,101,120,70,105,101,108,100],[110,110,105,105,70]),([85,110,105,116],[115,105]),([83,107,105,112],[105]),([77,117,116,101,120],[115,105]),([69,118,101,110,116],[115])]
def stmtT : List (List UInt8 × List UInt8):=[([83,116,111,114,101],[101,116]),([73,102],[101,83]),([87,104,105,108,101],[101,83]),([82,101,116,117,114,110],[]),([66,114,101,97,107],[]),([67,111,110,116,105,110,117,101],[]),([82,101,108,101,97,115,101],[110]),([83,105,103,110,97,108],[110]),([82,101,115,101,116],[110]),([83,108,101,101,112],[101]),([78,111,116,105,102,121],[110,101]),([65,99,113,117,105,114,101],[110,105]),([87,97,105,116],[110,101])]
def exprT : List (List UInt8 × List UInt8):=[([65,100,100],[101,101]),([83,117,98,116,114,97,99,116],[101,101]),([77,117,108,116,105,112,108,121],[101,101]),([68,105,118,105,100,101],[101,101]),([77,111,100],[101,101]),([65,110,100],[101,101]),([79,114],[101,101]),([88,111,114],[101,101]),([83,104,105,102,116,76,101,102,116],[101,101]),([83,104,105,102,116,82,105,103,104,116],[101,101]),([76,65,110,100],[101,101]),([76,79,114],[101,101]),([76,69,113,117,97,108],[101,101]),([76,76,101,115,115],[101,101]),([76,71,114,101,97,116,101,114],[101,101]),([67,111,110,99,97,116,101,110,97,116,101],[101,101]),([73,110,100,101,120],[101,101]),([78,111,116],[101]),([76,78,111,116],[101]),([83,105,122,101,79,102],[101]),([84,111,73,110,116,101,103,101,114],[101]),([84,111,66,117,102,102,101,114],[101]),([84,111,72,101,120,83,116,114,105,110,103],[101]),([84,111,68,101,99,105,109,97,108,83,116,114,105,110,103],[101]),([68,101,114,101,102,79,102],[101]),([82,101,102,79,102],[116]),([67,111,110,100,82,101,102,79,102],[110]),([79,98,106,101,99,116,84,121,112,101],[116]),([77,105,100],[101,101,101])]
def elemB (op : Int) : Bool:=op == 18 || op == 19
def dataB (op : Int) : Bool:=op == 1 || op == 2 || op == 50 || op == 51
def exprB (op : Int) : Bool:=op == 3 || op == 5 || op == 6 || op == 7 || op == 41 || op == 42 || dataB op || (decide (60 ≤ op) && decide (op ≤ 88))
def accB (k : UInt8) (op : Int) : Bool :=
 if k = 110 ∨ k = 115 then op == 3 else if k = 105 ∨ k = 73 then op == 1 else if k = 101 then exprB op
 else if k = 116 then op == 3 || op == 6 || op == 7 || op == 76 || op == 84
 else if k = 100 then dataB op else if k = 80 then dataB op || op == 3
 else if k = 68 then decide (10 ≤ op) && decide (op ≤ 21) && !elemB op
 else if k = 70 then elemB op
 else if k = 83 then (decide (30 ≤ op) && decide (op ≤ 42)) || op == 5 else false
def blkB (k : UInt8) : Bool:=decide (65 ≤ k.toNat) && decide (k.toNat ≤ 90)
def listB (k : UInt8) : Bool:=k == 73 || k == 80
def formP (op : Int) : List UInt8 × List UInt8 :=
 if 10 ≤ op ∧ op ≤ 21 then declT.getD (op - 10).toNat ([],[])
 else if 30 ≤ op ∧ op ≤ 42 then stmtT.getD (op - 30).toNat ([],[])
 else if 60 ≤ op ∧ op ≤ 88 then exprT.getD (op - 60).toNat ([],[])
 else if op = 50 then ([66,117,102,102,101,114],[105,73])
 else if op = 51 then ([80,97,99,107,97,103,101],[105,80]) else ([],[])
def findW (w : List UInt8) : List (List UInt8 × List UInt8) → Nat → Option Nat
 | [],_ => none
 | x :: r,i => if x.1 = w then some i else findW w r (i + 1)
def opW (w : List UInt8) : Int :=
 match findW w exprT 60 with
 | some i => i
 | none => match findW w stmtT 30 with
   | some i => i
   | none => match findW w declT 10 with
     | some i => i
     | none => if w = [66,117,102,102,101,114] then 50 else if w = [80,97,99,107,97,103,101] then 51 else 0
def varW (w : List UInt8) : Option (Int × Nat) :=
 match w.getLast? with
 | none => none
 | some c => if w.dropLast = [76,111,99,97,108] ∧ 48 ≤ c.toNat ∧ c.toNat < 56 then some (6,c.toNat - 48)
   else if w.dropLast = [65,114,103] ∧ 48 ≤ c.toNat ∧ c.toNat < 55 then some (7,c.toNat - 48) else none
def singB (s : List UInt8) : Bool:=!parRoot s && decide (parUp s = 0) && decide ((parSegs s).length = 1)
def nameB (k : UInt8) (s : List UInt8) : Bool:=parOk s && (k != 115 || singB s)
inductive PR where
 | no (r : List TokI)
 | ok (r : List TokI) (ns : List Nd)
section
variable (sub : UInt8 → List TokI → PR)
end
def PGood (r : List TokI) : PR → Prop
 | .no x => ∃ k,x = r.drop k
 | .ok x ns => ∃ k,k ≤ r.length ∧ x = r.drop k ∧ ns.length ≤ k
def PGood1 (r : List TokI) : PR → Prop
 | .no x => ∃ k,x = r.drop k
 | .ok x ns => ∃ k,1 ≤ k ∧ k ≤ r.length ∧ x = r.drop k ∧ ns.length ≤ k
theorem PGood1.good {r : List TokI} {x : PR} (h : PGood1 r x) : PGood r x:=by
 cases x with
 | no y => exact h
 | ok y ns => obtain ⟨k,_,h2,h3,h4⟩:=h; exact ⟨k,h2,h3,h4⟩
theorem PGood.after {r : List TokI} {j n : Nat} {x : PR} (hj : j ≤ r.length) (h : PGood (r.drop j) x) : match x with | .no y => ∃ k,y = r.drop k | .ok y ns => ∃ k,j ≤ k ∧ k ≤ r.length ∧ y = r.drop k ∧ ns.length + j ≤ k:=by
 cases x with
 | no y => obtain ⟨k,rfl⟩:=h; exact ⟨j + k,by rw [List.drop_drop]⟩
 | ok y ns =>
   obtain ⟨k,h1,rfl,h3⟩:=h
   rw [List.length_drop] at h1
   exact ⟨j + k,by omega,by omega,by rw [List.drop_drop],by omega⟩
section
variable {sub : UInt8 → List TokI → PR} (hs : ∀ k r,PGood1 r (sub k r))
include hs
end
end
section
open Go.RowKit
def fieldsB (n : Nd) (k : UInt8) : Bool :=
 (if n.kind = 1 then true else if n.kind = 6 then decide (n.num < 8) else if n.kind = 7 then decide (n.num < 7) else n.num == 0) &&
 (if n.kind = 3 ∨ n.kind = 5 then nameB k n.str else if n.kind = 2 then decide (n.str.length ≤ 255) else n.str == [])
def kidsK (n : Nd) : Option (List UInt8) :=
 if n.kind = 5 then (if 0 ≤ n.pos ∧ n.pos ≤ 7 then some (List.replicate n.pos.toNat 101) else none)
 else if n.kind = 33 then (if 0 ≤ n.pos ∧ n.pos ≤ 1 then some (List.replicate n.pos.toNat 101) else none)
 else if n.kind = 31 ∧ n.pos = 3 then some [101,83,83]
 else if ((formP n.kind).2.length : Int) = n.pos then some (formP n.kind).2 else none
def nextN (f : Nat → Option Nat) : Nat → Nat → Option Nat
 | 0,i => some i
 | m + 1,i => match f i with
   | none => none
   | some j => nextN f m j
def nextK (f : UInt8 → Nat → Option Nat) : List UInt8 → Nat → Option Nat
 | [],i => some i
 | k :: ks,i => match f k i with
   | none => none
   | some j => nextK f ks j
def vAny (p : List Nd) : Nat → Bool → UInt8 → Nat → Option Nat
 | 0,_,_,_ => none
 | d + 1,true,k,i => match p[i]? with
   | none => none
   | some n => if n.kind = 4 ∧ n.num = 0 ∧ n.str = [] ∧ 0 ≤ n.pos then nextN (vAny p d false k) n.pos.toNat (i + 1) else none
 | d + 1,false,k,i => match p[i]? with
   | none => none
   | some n => if accB k n.kind = true ∧ fieldsB n k = true then (match kidsK n with
     | none => none
     | some ks => nextK (fun k j => vAny p d (blkB k) k j) ks (i + 1)) else none
def vTop (p : List Nd) : Nat → Nat → Bool
 | 0,i => decide (p.length ≤ i)
 | f + 1,i => if p.length ≤ i then true else match vAny p 32 false 68 i with
   | none => false
   | some j => vTop p f j
def validL (p : List Nd) : Bool:=decide (p.length ≤ 2048) && vTop p p.length 0
theorem nextN_good {f : Nat → Option Nat} {L : Nat} (h : ∀ i j,f i = some j → i < j ∧ j ≤ L) : ∀ (m i j : Nat),nextN f m i = some j → i ≤ L → i ≤ j ∧ j ≤ L
 | 0,i,j,e,hi => by rw [nextN] at e; injection e with e; omega
 | m + 1,i,j,e,hi => by
   rw [nextN] at e
   cases hf : f i with
   | none => rw [hf] at e; cases e
   | some k =>
     rw [hf] at e
     have:=h i k hf
     have:=nextN_good h m k j e this.2
     omega
theorem nextK_good {f : UInt8 → Nat → Option Nat} {L : Nat} (h : ∀ k i j,f k i = some j → i < j ∧ j ≤ L) : ∀ (ks : List UInt8) (i j : Nat),nextK f ks i = some j → i ≤ L → i ≤ j ∧ j ≤ L
 | [],i,j,e,hi => by rw [nextK] at e; injection e with e; omega
 | k :: ks,i,j,e,hi => by
   rw [nextK] at e
   cases hf : f k i with
   | none => rw [hf] at e; cases e
   | some q =>
     rw [hf] at e
     have:=h k i q hf
     have:=nextK_good h ks q j e this.2
     omega
theorem vAny_good (p : List Nd) : ∀ (d : Nat) (b : Bool) (k : UInt8) (i j : Nat),vAny p d b k i = some j → i < j ∧ j ≤ p.length
 | 0,b,k,i,j,e => by rw [vAny] at e; cases e
 | d + 1,true,k,i,j,e => by
   rw [vAny] at e
   cases hn : p[i]? with
   | none => rw [hn] at e; cases e
   | some n =>
     rw [hn] at e
     simp only [] at e
     have hi : i < p.length:=(List.getElem?_eq_some_iff.1 hn).1
     split at e
     ·have:=nextN_good (fun i j => vAny_good p d false k i j) _ _ _ e (by omega)
      omega
     ·cases e
 | d + 1,false,k,i,j,e => by
   rw [vAny] at e
   cases hn : p[i]? with
   | none => rw [hn] at e; cases e
   | some n =>
     rw [hn] at e
     simp only [] at e
     have hi : i < p.length:=(List.getElem?_eq_some_iff.1 hn).1
     split at e
     ·cases hk : kidsK n with
      | none => rw [hk] at e; cases e
      | some ks =>
        rw [hk] at e
        have:=nextK_good (fun k i j => vAny_good p d (blkB k) k i j) _ _ _ e (by omega)
        omega
     ·cases e
end
end Go.Proofs.YtoohondkpddmcaaGreatDoor
