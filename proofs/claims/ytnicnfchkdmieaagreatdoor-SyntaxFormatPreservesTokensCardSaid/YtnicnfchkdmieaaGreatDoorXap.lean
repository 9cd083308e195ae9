/- Sa Sc Fb -/
import Derived.Test.YtnicnfchkdmieaaGreatDoorXaj
import Derived.Test.YtnicnfchkdmieaaGreatDoorXao
import Derived.Test.YtnicnfchkdmieaaGreatDoorXam
set_option linter.unusedVariables false
set_option linter.unusedSimpArgs false
namespace Go.Proofs.YtnicnfchkdmieaaGreatDoor
section
open Go.RowKit
abbrev Nd:=TokI
def declT : List (List UInt8 × List UInt8):=[([83,99,111,112,101],[110,68]),([68,101,118,105,99,101],[115,68]),([80,111,119,101,114,82,101,115,111,117,114,99,101],[115,105,105,68]),([78,97,109,101],[115,100]),([77,101,116,104,111,100],[115,105,105,105,83]),([79,112,101,114,97,116,105,111,110,82,101,103,105,111,110],[115,105,105,105]),([70,105,101,108,100],[110,105,105,70]),([73,110,100,101,120,70,105,101,108,100],[110,110,105,105,70]),([85,110,105,116],[115,105]),([83,107,105,112],[105]),([77,117,116,101,120],[115,105]),([69,118,101,110,116],[115])]
def stmtT : List (List UInt8 × List UInt8):=[([83,116,111,114,101],[101,116]),([73,102],[101,83]),([87,104,105,108,101],[101,83]),([82,101,116,117,114,110],[]),([66,114,101,97,107],[]),([67,111,110,116,105,110,117,101],[]),([82,101,108,101,97,115,101],[110]),([83,105,103,110,97,108],[110]),([82,101,115,101,116],[110]),([83,108,101,101,112],[101]),([78,111,116,105,102,121],[110,101]),([65,99,113,117,105,114,101],[110,105]),([87,97,105,116],[110,101])]
def exprT : List (List UInt8 × List UInt8):=[([65,100,100],[101,101]),([83,117,98,116,114,97,99,116],[101,101]),([77,117,108,116,105,112,108,121],[101,101]),([68,105,118,105,100,101],[101,101]),([77,111,100],[101,101]),([65,110,100],[101,101]),([79,114],[101,101]),([88,111,114],[101,101]),([83,104,105,102,116,76,101,102,116],[101,101]),([83,104,105,102,116,82,105,103,104,116],[101,101]),([76,65,110,100],[101,101]),([76,79,114],[101,101]),([76,69,113,117,97,108],[101,101]),([76,76,101,115,115],[101,101]),([76,71,114,101,97,116,101,114],[101,101]),([67,111,110,99,97,116,101,110,97,116,101],[101,101]),([73,110,100,101,120],[101,101]),([78,111,116],[101]),([76,78,111,116],[101]),([83,105,122,101,79,102],[101]),([84,111,73,110,116,101,103,101,114],[101]),([84,111,66,117,102,102,101,114],[101]),([84,111,72,101,120,83,116,114,105,110,103],[101]),([84,111,68,101,99,105,109,97,108,83,116,114,105,110,103],[101]),([68,101,114,101,102,79,102],[101]),([82,101,102,79,102],[116]),([67,111,110,100,82,101,102,79,102],[110]),([79,98,106,101,99,116,84,121,112,101],[116]),([77,105,100],[101,101,101])]
def elemB (op : Int) : Bool:=op == 18 || op == 19
def dataB (op : Int) : Bool:=op == 1 || op == 2 || op == 50 || op == 51
def exprB (op : Int) : Bool:=op == 3 || op == 5 || op == 6 || op == 7 || op == 41 || op == 42 || dataB op || (decide (60 ≤ op) && decide (op ≤ 88))
def accB (k : UInt8) (op : Int) : Bool :=
 if k = 110 ∨ k = 115 then op == 3 else if k = 105 ∨ k = 73 then op == 1 else if k = 101 then exprB op
 else if k = 116 then op == 3 || op == 6 || op == 7 || op == 76 || op == 84
 else if k = 100 then dataB op else if k = 80 then dataB op || op == 3
 else if k = 68 then decide (10 ≤ op) && decide (op ≤ 21) && !elemB op
 else if k = 70 then elemB op
 else if k = 83 then (decide (30 ≤ op) && decide (op ≤ 42)) || op == 5 else false
def blkB (k : UInt8) : Bool:=decide (65 ≤ k.toNat) && decide (k.toNat ≤ 90)
def listB (k : UInt8) : Bool:=k == 73 || k == 80
def formP (op : Int) : List UInt8 × List UInt8 :=
 if 10 ≤ op ∧ op ≤ 21 then declT.getD (op - 10).toNat ([],[])
 else if 30 ≤ op ∧ op ≤ 42 then stmtT.getD (op - 30).toNat ([],[])
 else if 60 ≤ op ∧ op ≤ 88 then exprT.getD (op - 60).toNat ([],[])
 else if op = 50 then ([66,117,102,102,101,114],[105,73])
 else if op = 51 then ([80,97,99,107,97,103,101],[105,80]) else ([],[])
def findW (w : List UInt8) : List (List UInt8 × List UInt8) → Nat → Option Nat
 | [],_ => none
 | x :: r,i => if x.1 = w then some i else findW w r (i + 1)
def opW (w : List UInt8) : Int :=
 match findW w exprT 60 with
 | some i => i
 | none => match findW w stmtT 30 with
   | some i => i
   | none => match findW w declT 10 with
     | some i => i
     | none => if w = [66,117,102,102,101,114] then 50 else if w = [80,97,99,107,97,103,101] then 51 else 0
def varW (w : List UInt8) : Option (Int × Nat) :=
 match w.getLast? with
 | none => none
 | some c => if w.dropLast = [76,111,99,97,108] ∧ 48 ≤ c.toNat ∧ c.toNat < 56 then some (6,c.toNat - 48)
   else if w.dropLast = [65,114,103] ∧ 48 ≤ c.toNat ∧ c.toNat < 55 then some (7,c.toNat - 48) else none
def singB (s : List UInt8) : Bool:=!parRoot s && decide (parUp s = 0) && decide ((parSegs s).length = 1)
def nameB (k : UInt8) (s : List UInt8) : Bool:=parOk s && (k != 115 || singB s)
inductive PR where
 | no (r : List TokI)
 | ok (r : List TokI) (ns : List Nd)
def atT (k : Int) : List TokI → Bool
 | [] => false
 | t :: _ => t.kind == k
def elseT : List TokI → Bool
 | [] => false
 | t :: _ => t.kind == 2 && t.str == [69,108,115,101]
def posT (E : Int) : List TokI → Int
 | [] => E
 | t :: _ => t.pos
section
variable (sub : UInt8 → List TokI → PR)
def callL (text : List UInt8) : Nat → Nat → List Nd → List TokI → PR
 | 0,_,_,r => .no r
 | f + 1,m,ns,r => match sub 101 r with
   | .no x => .no x
   | .ok r1 n1 => if m + 1 = 7 ∨ atT 9 r1 = false then (if atT 6 r1 = true then .ok r1.tail (⟨5,0,text,(m + 1 : Nat)⟩ :: (ns ++ n1)) else .no r1)
     else callL text f (m + 1) (ns ++ n1) r1.tail
def callP (text : List UInt8) (r : List TokI) : PR:=if atT 6 r = true then .ok r.tail [⟨5,0,text,0⟩] else callL sub text 7 0 [] r
def nameP (k : UInt8) (text : List UInt8) (r : List TokI) : PR :=
 if nameB k text = false then .no r
 else if accB k 3 = false ∧ accB k 5 = false then .no r
 else if accB k 5 = true ∧ atT 5 r.tail = true then callP sub text r.tail.tail
 else if accB k 3 = false then .no r.tail
 else .ok r.tail [⟨3,0,text,0⟩]
def blockL (k : UInt8) : Nat → Nat → List Nd → List TokI → PR
 | 0,_,_,r => .no r
 | f + 1,m,ns,r => if atT 8 r = true then .ok r.tail (⟨4,0,[],(m : Nat)⟩ :: ns)
   else if listB k = true ∧ 0 < m ∧ atT 9 r = false then .no r
   else match sub k (if listB k = true ∧ 0 < m then r.tail else r) with
    | .no x => .no x
    | .ok r1 n1 => blockL k f (m + 1) (ns ++ n1) r1
def blockP (k : UInt8) (r : List TokI) : PR:=if atT 7 r = true then blockL sub k r.length 0 [] r.tail else .no r
def argsL : List UInt8 → Bool → List Nd → List TokI → PR
 | [],_,ns,r => if atT 6 r = true then .ok r.tail ns else .no r
 | k :: ks,first,ns,r => if blkB k = true then (if atT 6 r = true then .ok r.tail ns else .no r)
   else if first = false ∧ atT 9 r = false then .no r
   else match sub k (if first = false then r.tail else r) with
    | .no x => .no x
    | .ok r1 n1 => argsL ks false (ns ++ n1) r1
def blksL : List UInt8 → List Nd → List TokI → PR
 | [],ns,r => .ok r ns
 | k :: ks,ns,r => match blockP sub k r with
   | .no x => .no x
   | .ok r1 n1 => blksL ks (ns ++ n1) r1
def opsP (kinds : List UInt8) (r : List TokI) : PR :=
 if kinds = [] then .ok r [] else if atT 5 r = false then .no r
 else match argsL sub kinds true [] r.tail with
  | .no x => .no x
  | .ok r1 n1 => blksL sub (kinds.dropWhile fun k => !blkB k) n1 r1
def wordP (k : UInt8) (w : List UInt8) (r : List TokI) : PR :=
 match varW w with
 | some (op,n) => if accB k op = true then .ok r.tail [⟨op,n,[],0⟩] else .no r
 | none =>
   if opW w = 0 ∨ accB k (opW w) = false then .no r
   else if opW w = 33 then (if atT 5 r.tail = true then (match opsP sub [101] r.tail with | .no x => .no x | .ok r1 n1 => .ok r1 (⟨33,0,[],1⟩ :: n1)) else .ok r.tail [⟨33,0,[],0⟩])
   else match opsP sub (formP (opW w)).2 r.tail with
    | .no x => .no x
    | .ok r1 n1 =>
      if opW w = 31 ∧ elseT r1 = true then (match blockP sub 83 r1.tail with | .no x => .no x | .ok r2 n2 => .ok r2 (⟨31,0,[],3⟩ :: (n1 ++ n2)))
      else .ok r1 (⟨opW w,0,[],((formP (opW w)).2.length : Nat)⟩ :: n1)
end
def subP : Nat → UInt8 → List TokI → PR
 | 0,_,r => .no r
 | f + 1,k,r => match r with
   | [] => .no []
   | t :: q => if t.kind = 1 then nameP (subP f) k t.str r else if t.kind = 2 then wordP (subP f) k t.str r
     else if t.kind = 3 ∧ accB k 1 = true then .ok q [⟨1,t.num,[],0⟩]
     else if t.kind = 4 ∧ accB k 2 = true then .ok q [⟨2,0,t.str,0⟩] else .no r
def PGood (r : List TokI) : PR → Prop
 | .no x => ∃ k,x = r.drop k
 | .ok x ns => ∃ k,k ≤ r.length ∧ x = r.drop k ∧ ns.length ≤ k
def PGood1 (r : List TokI) : PR → Prop
 | .no x => ∃ k,x = r.drop k
 | .ok x ns => ∃ k,1 ≤ k ∧ k ≤ r.length ∧ x = r.drop k ∧ ns.length ≤ k
theorem PGood1.good {r : List TokI} {x : PR} (h : PGood1 r x) : PGood r x:=by
 cases x with
 | no y => exact h
 | ok y ns => obtain ⟨k,_,h2,h3,h4⟩:=h; exact ⟨k,h2,h3,h4⟩
theorem atT_len {k : Int} {r : List TokI} (h : atT k r = true) : 1 ≤ r.length:=by
 cases r with
 | nil => cases h
 | cons t q => simp
theorem PGood.after {r : List TokI} {j n : Nat} {x : PR} (hj : j ≤ r.length) (h : PGood (r.drop j) x) : match x with | .no y => ∃ k,y = r.drop k | .ok y ns => ∃ k,j ≤ k ∧ k ≤ r.length ∧ y = r.drop k ∧ ns.length + j ≤ k:=by
 cases x with
 | no y => obtain ⟨k,rfl⟩:=h; exact ⟨j + k,by rw [List.drop_drop]⟩
 | ok y ns =>
   obtain ⟨k,h1,rfl,h3⟩:=h
   rw [List.length_drop] at h1
   exact ⟨j + k,by omega,by omega,by rw [List.drop_drop],by omega⟩
section
variable {sub : UInt8 → List TokI → PR} (hs : ∀ k r,PGood1 r (sub k r))
include hs
theorem callL_good (text : List UInt8) (R : List TokI) : ∀ (f m j : Nat) (ns : List Nd),j ≤ R.length → 1 ≤ j → ns.length + 1 ≤ j →
  PGood1 R (callL sub text f m ns (R.drop j))
 | 0,m,j,ns,h,h1,h2 => ⟨j,rfl⟩
 | f + 1,m,j,ns,h,h1,h2 => by
   rw [callL]
   have hk:=hs 101 (R.drop j)
   cases hx : sub 101 (R.drop j) with
   | no x => rw [hx] at hk; obtain ⟨k,rfl⟩:=hk; exact ⟨j + k,by rw [List.drop_drop]⟩
   | ok r1 n1 =>
     rw [hx] at hk
     obtain ⟨k,k1,k2,rfl,k4⟩:=hk
     rw [List.length_drop] at k2
     rw [List.drop_drop]
     simp only []
     split
     ·split
      ·rename_i h6
       have:=atT_len h6
       rw [List.length_drop] at this
       rw [List.tail_drop]
       exact ⟨j + k + 1,by omega,by omega,rfl,by simp only [List.length_cons,List.length_append]; omega⟩
      ·exact ⟨_,rfl⟩
     ·rename_i h9
      have h9' : atT 9 (R.drop (j + k)) = true:=by
       cases h : atT 9 (R.drop (j + k)) with
       | true => rfl
       | false => exact absurd (Or.inr h) h9
      have:=atT_len h9'
      rw [List.length_drop] at this
      rw [List.tail_drop]
      exact callL_good text R f (m + 1) (j + k + 1) _ (by omega) (by omega) (by simp only [List.length_append]; omega)
theorem callP_good (text : List UInt8) (R : List TokI) (j : Nat) (h : j ≤ R.length) (h1 : 1 ≤ j) : PGood1 R (callP sub text (R.drop j)):=by
 unfold callP
 split
 ·rename_i h6
  have:=atT_len h6
  rw [List.length_drop] at this
  rw [List.tail_drop]
  exact ⟨j + 1,by omega,by omega,rfl,by simp⟩
 ·exact callL_good hs text R 7 0 j [] h h1 (by simp; omega)
theorem nameP_good (k : UInt8) (text : List UInt8) (R : List TokI) (h : 1 ≤ R.length) : PGood1 R (nameP sub k text R):=by
 unfold nameP
 split
 ·exact ⟨0,rfl⟩
 split
 ·exact ⟨0,rfl⟩
 split
 ·rename_i h5
  have:=atT_len h5.2
  rw [List.length_tail] at this
  rw [show R.tail.tail = R.drop 2 by cases R with | nil => rfl | cons a q => cases q <;> rfl]
  exact callP_good hs text R 2 (by omega) (by omega)
 split
 ·exact ⟨1,by rw [List.drop_one]⟩
 ·exact ⟨1,by omega,h,by rw [List.drop_one],by simp⟩
theorem blockL_good (k : UInt8) (R : List TokI) : ∀ (f m j : Nat) (ns : List Nd),j ≤ R.length → 1 ≤ j → ns.length + 1 ≤ j →
  PGood1 R (blockL sub k f m ns (R.drop j))
 | 0,m,j,ns,h,h1,h2 => ⟨j,rfl⟩
 | f + 1,m,j,ns,h,h1,h2 => by
   rw [blockL]
   split
   ·rename_i h8
    have:=atT_len h8
    rw [List.length_drop] at this
    rw [List.tail_drop]
    exact ⟨j + 1,by omega,by omega,rfl,by simp only [List.length_cons]; omega⟩
   split
   ·exact ⟨j,rfl⟩
   rename_i h9
   obtain ⟨i,hi1,hi2,hi3⟩ : ∃ i,j ≤ i ∧ i ≤ R.length ∧ (if listB k = true ∧ 0 < m then (R.drop j).tail else R.drop j) = R.drop i:=by
    by_cases hl : listB k = true ∧ 0 < m
    ·rw [if_pos hl]
     have h9' : atT 9 (R.drop j) = true:=by
      cases h : atT 9 (R.drop j) with
      | true => rfl
      | false => exact absurd ⟨hl.1,hl.2,h⟩ h9
     have:=atT_len h9'
     rw [List.length_drop] at this
     exact ⟨j + 1,by omega,by omega,by rw [List.tail_drop]⟩
    ·rw [if_neg hl]; exact ⟨j,by omega,h,rfl⟩
   rw [hi3]
   have hk:=hs k (R.drop i)
   cases hx : sub k (R.drop i) with
   | no x => rw [hx] at hk; obtain ⟨k,rfl⟩:=hk; exact ⟨i + k,by rw [List.drop_drop]⟩
   | ok r1 n1 =>
     rw [hx] at hk
     obtain ⟨q,k1,k2,rfl,k4⟩:=hk
     rw [List.length_drop] at k2
     rw [List.drop_drop]
     exact blockL_good k R f (m + 1) (i + q) _ (by omega) (by omega) (by simp only [List.length_append]; omega)
theorem blockP_good (k : UInt8) (R : List TokI) : PGood1 R (blockP sub k R):=by
 unfold blockP
 split
 ·rename_i h7
  have:=atT_len h7
  rw [← List.drop_one]
  exact blockL_good hs k R _ 0 1 [] this (by omega) (by simp)
 ·exact ⟨0,rfl⟩
theorem argsL_good (R : List TokI) : ∀ (ks : List UInt8) (first : Bool) (j : Nat) (ns : List Nd),j ≤ R.length → ns.length ≤ j →
  match argsL sub ks first ns (R.drop j) with | .no x => ∃ k,x = R.drop k | .ok x ns => ∃ k,j + 1 ≤ k ∧ k ≤ R.length ∧ x = R.drop k ∧ ns.length + 1 ≤ k
 | [],first,j,ns,h,h2 => by
   rw [argsL]
   by_cases h6 : atT 6 (R.drop j) = true
   ·rw [if_pos h6]
    have:=atT_len h6
    rw [List.length_drop] at this
    exact ⟨j + 1,by omega,by omega,by rw [List.tail_drop],by omega⟩
   ·rw [if_neg h6]; exact ⟨j,rfl⟩
 | k :: ks,first,j,ns,h,h2 => by
   rw [argsL]
   by_cases hb : blkB k = true
   ·rw [if_pos hb]
    by_cases h6 : atT 6 (R.drop j) = true
    ·rw [if_pos h6]
     have:=atT_len h6
     rw [List.length_drop] at this
     exact ⟨j + 1,by omega,by omega,by rw [List.tail_drop],by omega⟩
    ·rw [if_neg h6]; exact ⟨j,rfl⟩
   rw [if_neg hb]
   by_cases h9 : first = false ∧ atT 9 (R.drop j) = false
   ·rw [if_pos h9]; exact ⟨j,rfl⟩
   rw [if_neg h9]
   obtain ⟨i,hi1,hi2,hi3⟩ : ∃ i,j ≤ i ∧ i ≤ R.length ∧ (if first = false then (R.drop j).tail else R.drop j) = R.drop i:=by
    by_cases hl : first = false
    ·rw [if_pos hl]
     have h9' : atT 9 (R.drop j) = true:=by
      cases h : atT 9 (R.drop j) with
      | true => rfl
      | false => exact absurd ⟨hl,h⟩ h9
     have:=atT_len h9'
     rw [List.length_drop] at this
     exact ⟨j + 1,by omega,by omega,by rw [List.tail_drop]⟩
    ·rw [if_neg hl]; exact ⟨j,by omega,h,rfl⟩
   rw [hi3]
   have hk:=hs k (R.drop i)
   cases hx : sub k (R.drop i) with
   | no x => rw [hx] at hk; obtain ⟨k,rfl⟩:=hk; exact ⟨i + k,by rw [List.drop_drop]⟩
   | ok r1 n1 =>
     rw [hx] at hk
     obtain ⟨q,k1,k2,rfl,k4⟩:=hk
     rw [List.length_drop] at k2
     rw [List.drop_drop]
     simp only []
     have:=argsL_good R ks false (i + q) (ns ++ n1) (by omega) (by simp only [List.length_append]; omega)
     cases hy : argsL sub ks false (ns ++ n1) (R.drop (i + q)) with
     | no x => rw [hy] at this; exact this
     | ok x n2 => rw [hy] at this; obtain ⟨z,z1,z2,z3,z4⟩:=this; exact ⟨z,by omega,z2,z3,z4⟩
theorem blksL_good (R : List TokI) : ∀ (ks : List UInt8) (j : Nat) (ns : List Nd),j ≤ R.length → ns.length + 1 ≤ j →
  match blksL sub ks ns (R.drop j) with | .no x => ∃ k,x = R.drop k | .ok x ns => ∃ k,j ≤ k ∧ k ≤ R.length ∧ x = R.drop k ∧ ns.length + 1 ≤ k
 | [],j,ns,h,h2 => ⟨j,Nat.le_refl _,h,rfl,h2⟩
 | k :: ks,j,ns,h,h2 => by
   rw [blksL]
   have hk:=blockP_good hs k (R.drop j)
   cases hx : blockP sub k (R.drop j) with
   | no x => rw [hx] at hk; obtain ⟨k,rfl⟩:=hk; exact ⟨j + k,by rw [List.drop_drop]⟩
   | ok r1 n1 =>
     rw [hx] at hk
     obtain ⟨q,k1,k2,rfl,k4⟩:=hk
     rw [List.length_drop] at k2
     rw [List.drop_drop]
     simp only []
     have:=blksL_good R ks (j + q) (ns ++ n1) (by omega) (by simp only [List.length_append]; omega)
     cases hy : blksL sub ks (ns ++ n1) (R.drop (j + q)) with
     | no x => rw [hy] at this; exact this
     | ok x n2 => rw [hy] at this; obtain ⟨z,z1,z2,z3,z4⟩:=this; exact ⟨z,by omega,z2,z3,z4⟩
theorem opsP_good (kinds : List UInt8) (R : List TokI) (j : Nat) (h : j ≤ R.length) (h1 : 1 ≤ j) :
  match opsP sub kinds (R.drop j) with | .no x => ∃ k,x = R.drop k | .ok x ns => ∃ k,j ≤ k ∧ k ≤ R.length ∧ x = R.drop k ∧ ns.length + 1 ≤ k:=by
 unfold opsP
 by_cases hn : kinds = []
 ·rw [if_pos hn]; exact ⟨j,Nat.le_refl _,h,rfl,by simpa using h1⟩
 rw [if_neg hn]
 by_cases h5 : atT 5 (R.drop j) = false
 ·rw [if_pos h5]; exact ⟨j,rfl⟩
 rw [if_neg h5]
 have h5' : atT 5 (R.drop j) = true:=by simpa using h5
 have:=atT_len h5'
 rw [List.length_drop] at this
 rw [List.tail_drop]
 have ha:=argsL_good hs R kinds true (j + 1) [] (by omega) (by simp)
 cases hx : argsL sub kinds true [] (R.drop (j + 1)) with
 | no x => rw [hx] at ha; exact ha
 | ok r1 n1 =>
   rw [hx] at ha
   obtain ⟨q,k1,k2,rfl,k4⟩:=ha
   simp only []
   have hb:=blksL_good hs R (kinds.dropWhile fun k => !blkB k) q n1 k2 k4
   cases hy : blksL sub (kinds.dropWhile fun k => !blkB k) n1 (R.drop q) with
   | no x => rw [hy] at hb; exact hb
   | ok x n2 => rw [hy] at hb; obtain ⟨z,z1,z2,z3,z4⟩:=hb; exact ⟨z,by omega,z2,z3,z4⟩
theorem wordP_good (k : UInt8) (w : List UInt8) (R : List TokI) (h : 1 ≤ R.length) : PGood1 R (wordP sub k w R):=by
 unfold wordP
 cases hv : varW w with
 | some x =>
   obtain ⟨op,n⟩:=x
   simp only []
   split
   ·exact ⟨1,by omega,h,by rw [List.drop_one],by simp⟩
   ·exact ⟨0,rfl⟩
 | none =>
   simp only []
   split
   ·exact ⟨0,rfl⟩
   split
   ·split
    ·have:=opsP_good hs [101] R 1 h (by omega)
     rw [← List.drop_one]
     cases hx : opsP sub [101] (R.drop 1) with
     | no x => rw [hx] at this; exact this
     | ok x ns => rw [hx] at this; obtain ⟨z,z1,z2,z3,z4⟩:=this; exact ⟨z,z1,z2,z3,by simpa using z4⟩
    ·exact ⟨1,by omega,h,by rw [List.drop_one],by simp⟩
   ·have:=opsP_good hs (formP (opW w)).2 R 1 h (by omega)
    rw [← List.drop_one]
    cases hx : opsP sub (formP (opW w)).2 (R.drop 1) with
    | no x => rw [hx] at this; exact this
    | ok x ns =>
      rw [hx] at this
      obtain ⟨z,z1,z2,rfl,z4⟩:=this
      simp only []
      split
      ·rename_i he
       have hl : 1 ≤ (R.drop z).length:=by
        cases hd : R.drop z with
        | nil => rw [hd] at he; cases he.2
        | cons t q => simp
       rw [List.length_drop] at hl
       rw [List.tail_drop]
       have hk:=blockP_good hs 83 (R.drop (z + 1))
       cases hy : blockP sub 83 (R.drop (z + 1)) with
       | no x => rw [hy] at hk; obtain ⟨k,rfl⟩:=hk; exact ⟨z + 1 + k,by rw [List.drop_drop]⟩
       | ok r2 n2 =>
         rw [hy] at hk
         obtain ⟨q,k1,k2,rfl,k4⟩:=hk
         rw [List.length_drop] at k2
         exact ⟨z + 1 + q,by omega,by omega,by rw [List.drop_drop],by simp only [List.length_cons,List.length_append]; omega⟩
      ·exact ⟨z,z1,z2,rfl,by simpa using z4⟩
end
theorem subP_good : ∀ (f : Nat) (k : UInt8) (R : List TokI),PGood1 R (subP f k R)
 | 0,k,R => ⟨0,rfl⟩
 | f + 1,k,R => by
   cases R with
   | nil => exact ⟨0,rfl⟩
   | cons t q =>
     unfold subP
     simp only []
     split
     ·exact nameP_good (subP_good f) _ _ _ (by simp)
     split
     ·exact wordP_good (subP_good f) _ _ _ (by simp)
     split
     ·exact ⟨1,by omega,by simp,rfl,by simp⟩
     split
     ·exact ⟨1,by omega,by simp,rfl,by simp⟩
     ·exact ⟨0,rfl⟩
end
section
open Go.RowKit
def fieldsB (n : Nd) (k : UInt8) : Bool :=
 (if n.kind = 1 then true else if n.kind = 6 then decide (n.num < 8) else if n.kind = 7 then decide (n.num < 7) else n.num == 0) &&
 (if n.kind = 3 ∨ n.kind = 5 then nameB k n.str else if n.kind = 2 then decide (n.str.length ≤ 255) else n.str == [])
def kidsK (n : Nd) : Option (List UInt8) :=
 if n.kind = 5 then (if 0 ≤ n.pos ∧ n.pos ≤ 7 then some (List.replicate n.pos.toNat 101) else none)
 else if n.kind = 33 then (if 0 ≤ n.pos ∧ n.pos ≤ 1 then some (List.replicate n.pos.toNat 101) else none)
 else if n.kind = 31 ∧ n.pos = 3 then some [101,83,83]
 else if ((formP n.kind).2.length : Int) = n.pos then some (formP n.kind).2 else none
def nextN (f : Nat → Option Nat) : Nat → Nat → Option Nat
 | 0,i => some i
 | m + 1,i => match f i with
   | none => none
   | some j => nextN f m j
def nextK (f : UInt8 → Nat → Option Nat) : List UInt8 → Nat → Option Nat
 | [],i => some i
 | k :: ks,i => match f k i with
   | none => none
   | some j => nextK f ks j
def vAny (p : List Nd) : Nat → Bool → UInt8 → Nat → Option Nat
 | 0,_,_,_ => none
 | d + 1,true,k,i => match p[i]? with
   | none => none
   | some n => if n.kind = 4 ∧ n.num = 0 ∧ n.str = [] ∧ 0 ≤ n.pos then nextN (vAny p d false k) n.pos.toNat (i + 1) else none
 | d + 1,false,k,i => match p[i]? with
   | none => none
   | some n => if accB k n.kind = true ∧ fieldsB n k = true then (match kidsK n with
     | none => none
     | some ks => nextK (fun k j => vAny p d (blkB k) k j) ks (i + 1)) else none
def vTop (p : List Nd) : Nat → Nat → Bool
 | 0,i => decide (p.length ≤ i)
 | f + 1,i => if p.length ≤ i then true else match vAny p 32 false 68 i with
   | none => false
   | some j => vTop p f j
def validL (p : List Nd) : Bool:=decide (p.length ≤ 2048) && vTop p p.length 0
theorem nextN_good {f : Nat → Option Nat} {L : Nat} (h : ∀ i j,f i = some j → i < j ∧ j ≤ L) : ∀ (m i j : Nat),nextN f m i = some j → i ≤ L → i ≤ j ∧ j ≤ L
 | 0,i,j,e,hi => by rw [nextN] at e; injection e with e; omega
 | m + 1,i,j,e,hi => by
   rw [nextN] at e
   cases hf : f i with
   | none => rw [hf] at e; cases e
   | some k =>
     rw [hf] at e
     have:=h i k hf
     have:=nextN_good h m k j e this.2
     omega
theorem nextK_good {f : UInt8 → Nat → Option Nat} {L : Nat} (h : ∀ k i j,f k i = some j → i < j ∧ j ≤ L) : ∀ (ks : List UInt8) (i j : Nat),nextK f ks i = some j → i ≤ L → i ≤ j ∧ j ≤ L
 | [],i,j,e,hi => by rw [nextK] at e; injection e with e; omega
 | k :: ks,i,j,e,hi => by
   rw [nextK] at e
   cases hf : f k i with
   | none => rw [hf] at e; cases e
   | some q =>
     rw [hf] at e
     have:=h k i q hf
     have:=nextK_good h ks q j e this.2
     omega
theorem vAny_good (p : List Nd) : ∀ (d : Nat) (b : Bool) (k : UInt8) (i j : Nat),vAny p d b k i = some j → i < j ∧ j ≤ p.length
 | 0,b,k,i,j,e => by rw [vAny] at e; cases e
 | d + 1,true,k,i,j,e => by
   rw [vAny] at e
   cases hn : p[i]? with
   | none => rw [hn] at e; cases e
   | some n =>
     rw [hn] at e
     simp only [] at e
     have hi : i < p.length:=(List.getElem?_eq_some_iff.1 hn).1
     split at e
     ·have:=nextN_good (fun i j => vAny_good p d false k i j) _ _ _ e (by omega)
      omega
     ·cases e
 | d + 1,false,k,i,j,e => by
   rw [vAny] at e
   cases hn : p[i]? with
   | none => rw [hn] at e; cases e
   | some n =>
     rw [hn] at e
     simp only [] at e
     have hi : i < p.length:=(List.getElem?_eq_some_iff.1 hn).1
     split at e
     ·cases hk : kidsK n with
      | none => rw [hk] at e; cases e
      | some ks =>
        rw [hk] at e
        have:=nextK_good (fun k i j => vAny_good p d (blkB k) k i j) _ _ _ e (by omega)
        omega
     ·cases e
end
section
open Go.RowKit
def poT : TokI:=⟨5,0,[],0⟩
def pcT : TokI:=⟨6,0,[],0⟩
def boT : TokI:=⟨7,0,[],0⟩
def bcT : TokI:=⟨8,0,[],0⟩
def cmT : TokI:=⟨9,0,[],0⟩
def elT : TokI:=⟨2,0,[69,108,115,101],0⟩
def indL (n : Nat) : List UInt8:=List.replicate (2 * n) 32
def leafT (n : Nd) : Option TokI :=
 if n.kind = 1 then some ⟨3,n.num,[],0⟩ else if n.kind = 2 then some ⟨4,0,n.str,0⟩ else if n.kind = 3 then some ⟨1,0,n.str,0⟩
 else if n.kind = 6 then some ⟨2,0,[76,111,99,97,108,UInt8.ofNat (48 + n.num.toNat)],0⟩
 else if n.kind = 7 then some ⟨2,0,[65,114,103,UInt8.ofNat (48 + n.num.toNat)],0⟩ else none
def headT (n : Nd) : TokI:=if n.kind = 5 then ⟨1,0,n.str,0⟩ else ⟨2,0,(formP n.kind).1,0⟩
section
variable (sub : Bool → UInt8 → Nat → Nat → List UInt8 → PT × Nat)
def elS (k : UInt8) (lv : Nat) (first : Bool) : List UInt8:=if listB k = true then (if first = true then [] else [32]) else 10 :: indL (lv + 1)
def elV (k : UInt8) (lv : Nat) : Nat:=if listB k = true then lv else lv + 1
def elC (k : UInt8) (first : Bool) : PT:=if listB k = true ∧ first = false then [([],cmT)] else []
def elemsL (k : UInt8) (lv : Nat) : Nat → Bool → Nat → PT × Nat
 | 0,_,i => ([],i)
 | m + 1,first,i =>
   (elC k first ++ ((sub false k i (elV k lv) (elS k lv first)).1 ++ (elemsL k lv m false (sub false k i (elV k lv) (elS k lv first)).2).1),
    (elemsL k lv m false (sub false k i (elV k lv) (elS k lv first)).2).2)
def argsE (lv : Nat) : List UInt8 → Bool → Nat → PT × Nat
 | [],_,i => ([([],pcT)],i)
 | k :: ks,first,i => if blkB k = true then ([([],pcT)],i) else
   ((if first = true then [] else [([],cmT)]) ++ ((sub false k i lv (if first = true then [] else [32])).1 ++ (argsE lv ks false (sub false k i lv (if first = true then [] else [32])).2).1),
     (argsE lv ks false (sub false k i lv (if first = true then [] else [32])).2).2)
def blksE (lv : Nat) : List UInt8 → Bool → Nat → PT × Nat
 | [],_,i => ([],i)
 | k :: ks,first,i =>
   ((if first = true then [] else [([32],elT)]) ++ ((sub true k i lv [32]).1 ++ (blksE lv ks false (sub true k i lv [32]).2).1),(blksE lv ks false (sub true k i lv [32]).2).2)
def restE (ks : List UInt8) (lv i : Nat) : PT × Nat :=
 if ks = [] then ([],i) else
  (([32],poT) :: ((argsE sub lv ks true i).1 ++ (blksE sub lv (ks.dropWhile fun k => !blkB k) true (argsE sub lv ks true i).2).1),
    (blksE sub lv (ks.dropWhile fun k => !blkB k) true (argsE sub lv ks true i).2).2)
end
def endS (k : UInt8) (lv m : Nat) : List UInt8:=if listB k = true ∨ m = 0 then [] else 10 :: indL lv
def fmtA (p : List Nd) : Nat → Bool → UInt8 → Nat → Nat → List UInt8 → PT × Nat
 | 0,_,_,i,_,_ => ([],i)
 | d + 1,true,k,i,lv,s => match p[i]? with
   | none => ([],i)
   | some n => ((s,boT) :: ((elemsL (fmtA p d) k lv n.pos.toNat true (i + 1)).1 ++ [(endS k lv n.pos.toNat,bcT)]),(elemsL (fmtA p d) k lv n.pos.toNat true (i + 1)).2)
 | d + 1,false,k,i,lv,s => match p[i]? with
   | none => ([],i)
   | some n => match leafT n with
     | some t => ([(s,t)],i + 1)
     | none => if n.kind = 5 ∧ n.pos = 0 then ([(s,headT n),([32],poT),([],pcT)],i + 1)
       else ((s,headT n) :: (restE (fmtA p d) ((kidsK n).getD []) lv (i + 1)).1,(restE (fmtA p d) ((kidsK n).getD []) lv (i + 1)).2)
def topE (p : List Nd) : Nat → Bool → Nat → PT
 | 0,_,_ => []
 | f + 1,first,i => if p.length ≤ i then [] else
   (fmtA p 32 false 68 i 0 (if first = true then [] else [10])).1 ++ topE p f false (fmtA p 32 false 68 i 0 (if first = true then [] else [10])).2
def tailL (p : List Nd) : List UInt8:=if p = [] then [] else [10]
def fmtP (p : List Nd) : List UInt8:=textP (topE p p.length true 0) ++ tailL p
def shpB (ks : List UInt8) : Bool:=(ks.dropWhile fun k => !blkB k).all blkB && (match ks with | [] => true | k :: _ => !blkB k)
theorem form_shp (op : Int) : shpB (formP op).2 = true ∧ ((formP op).2.dropWhile fun k => !blkB k).length ≤ 1 ∧ (formP op).1 ≠ [69,108,115,101]:=by
 have h : ∀ (T : List (List UInt8 × List UInt8)),(T.all fun x => shpB x.2 && decide ((x.2.dropWhile fun k => !blkB k).length ≤ 1) && decide (x.1 ≠ [69,108,115,101])) = true → ∀ j,shpB (T.getD j ([],[])).2 = true ∧ ((T.getD j ([],[])).2.dropWhile fun k => !blkB k).length ≤ 1 ∧ (T.getD j ([],[])).1 ≠ [69,108,115,101]:=by
  intro T hT j
  by_cases hj : j < T.length
  ·have e : T.getD j ([],[]) = T[j]:=by simp [List.getD,hj]
   rw [e]
   have:=List.all_eq_true.1 hT _ (List.getElem_mem hj)
   simp only [Bool.and_eq_true,decide_eq_true_eq] at this
   exact ⟨this.1.1,this.1.2,this.2⟩
  ·have e : T.getD j ([],[]) = ([],[]):=by simp [List.getD,List.getElem?_eq_none (show T.length ≤ j by omega)]
   rw [e]; decide
 unfold formP
 split
 ·exact h declT (by decide +kernel) _
 split
 ·exact h stmtT (by decide +kernel) _
 split
 ·exact h exprT (by decide +kernel) _
 split
 ·decide
 split
 ·decide
 ·decide
theorem rep_drop (m : Nat) : (List.replicate m (101 : UInt8)).dropWhile (fun k => !blkB k) = []:=by
 induction m with
 | zero => rfl
 | succ m ih => rw [List.replicate_succ,List.dropWhile_cons,if_pos (by decide)]; exact ih
theorem rep_shp (m : Nat) : shpB (List.replicate m 101) = true:=by
 unfold shpB
 rw [rep_drop]
 cases m with
 | zero => rfl
 | succ m => rw [List.replicate_succ]; rfl
theorem kids_shp {n : Nd} {ks : List UInt8} (h : kidsK n = some ks) : shpB ks = true ∧ ((n.kind = 31 ∧ n.pos = 3 ∧ ks = [101,83,83]) ∨ (ks.dropWhile fun k => !blkB k).length ≤ 1):=by
 unfold kidsK at h
 split at h
 ·split at h
  ·injection h with h; subst h; exact ⟨rep_shp _,.inr (by rw [rep_drop]; simp)⟩
  ·cases h
 split at h
 ·split at h
  ·injection h with h; subst h; exact ⟨rep_shp _,.inr (by rw [rep_drop]; simp)⟩
  ·cases h
 split at h
 ·next h3 => injection h with h; subst h; exact ⟨by decide,.inl ⟨h3.1,h3.2,rfl⟩⟩
 split at h
 ·injection h with h; subst h; exact ⟨(form_shp _).1,.inr (form_shp _).2.1⟩
 ·cases h
theorem leaf_kids {n : Nd} {ks : List UInt8} {t : TokI} (hl : leafT n = some t) (h : kidsK n = some ks) : ks = [] ∧ n.pos = 0:=by
 have hk : n.kind = 1 ∨ n.kind = 2 ∨ n.kind = 3 ∨ n.kind = 6 ∨ n.kind = 7:=by
  unfold leafT at hl
  repeat' split at hl
  all_goals first | omega | cases hl
 unfold kidsK at h
 rcases hk with e | e | e | e | e <;> rw [e] at h <;>
  (rw [if_neg (by decide),if_neg (by decide),if_neg (by rintro ⟨h,_⟩; exact absurd h (by decide))] at h
   split at h
   ·next h2 => injection h with h; exact ⟨h.symm.trans (by decide),by have e0 : ((0 : Nat) : Int) = n.pos:=h2; omega⟩
   ·cases h)
section
variable {p : List Nd} {d : Nat}
theorem elems_next (lv : Nat) (k : UInt8) (hs : ∀ i j lv s,vAny p d false k i = some j → (fmtA p d false k i lv s).2 = j) : ∀ (m : Nat) (first : Bool) (i j : Nat),nextN (vAny p d false k) m i = some j → (elemsL (fmtA p d) k lv m first i).2 = j
 | 0,_,i,j,h => by rw [nextN] at h; injection h
 | m + 1,first,i,j,h => by
   rw [nextN] at h
   cases hx : vAny p d false k i with
   | none => rw [hx] at h; cases h
   | some q =>
     rw [hx] at h
     rw [elemsL]
     simp only [hs i q _ _ hx]
     exact elems_next lv k hs m false q j h
theorem args_next (lv : Nat) (hs : ∀ k i j lv s,vAny p d false k i = some j → (fmtA p d false k i lv s).2 = j) : ∀ (ks : List UInt8) (first : Bool) (i j : Nat),nextK (fun k j => vAny p d (blkB k) k j) ks i = some j →
  nextK (fun k j => vAny p d (blkB k) k j) (ks.dropWhile fun k => !blkB k) (argsE (fmtA p d) lv ks first i).2 = some j
 | [],_,i,j,h => by rw [argsE]; exact h
 | k :: ks,first,i,j,h => by
   rw [argsE]
   by_cases hb : blkB k = true
   ·rw [if_pos hb,List.dropWhile_cons,if_neg (by rw [hb]; decide)]; exact h
   ·have hb' : blkB k = false:=by simpa using hb
    rw [if_neg hb,List.dropWhile_cons,if_pos (by rw [hb']; decide)]
    rw [nextK] at h
    simp only [hb'] at h
    cases hx : vAny p d false k i with
    | none => rw [hx] at h; cases h
    | some q =>
      rw [hx] at h
      simp only [hs k i q _ _ hx]
      exact args_next lv hs ks false q j h
theorem blks_next (lv : Nat) (hs : ∀ k i j lv s,vAny p d true k i = some j → (fmtA p d true k i lv s).2 = j) : ∀ (ks : List UInt8) (first : Bool) (i j : Nat),ks.all blkB = true → nextK (fun k j => vAny p d (blkB k) k j) ks i = some j → (blksE (fmtA p d) lv ks first i).2 = j
 | [],_,i,j,_,h => by rw [nextK] at h; injection h
 | k :: ks,first,i,j,ha,h => by
   rw [List.all_cons,Bool.and_eq_true] at ha
   rw [nextK] at h
   simp only [ha.1] at h
   cases hx : vAny p d true k i with
   | none => rw [hx] at h; cases h
   | some q =>
     rw [hx] at h
     rw [blksE]
     simp only [hs k i q _ _ hx]
     exact blks_next lv hs ks false q j ha.2 h
end
theorem el_node {p : List Nd} {d : Nat} {k : UInt8} {i j : Nat} (h : vAny p (d + 1) false k i = some j) : ∃ n ks,p[i]? = some n ∧ accB k n.kind = true ∧ fieldsB n k = true ∧ kidsK n = some ks ∧ nextK (fun k j => vAny p d (blkB k) k j) ks (i + 1) = some j:=by
 rw [vAny] at h
 cases hn : p[i]? with
 | none => rw [hn] at h; cases h
 | some n =>
   rw [hn] at h
   simp only [] at h
   split at h
   ·next hx =>
    cases hk : kidsK n with
    | none => rw [hk] at h; cases h
    | some ks => rw [hk] at h; exact ⟨n,ks,rfl,hx.1,hx.2,hk,h⟩
   ·cases h
theorem bl_node {p : List Nd} {d : Nat} {k : UInt8} {i j : Nat} (h : vAny p (d + 1) true k i = some j) : ∃ n,p[i]? = some n ∧ (n.kind = 4 ∧ n.num = 0 ∧ n.str = [] ∧ 0 ≤ n.pos) ∧ nextN (vAny p d false k) n.pos.toNat (i + 1) = some j:=by
 rw [vAny] at h
 cases hn : p[i]? with
 | none => rw [hn] at h; cases h
 | some n =>
   rw [hn] at h
   simp only [] at h
   split at h
   ·next hx => exact ⟨n,rfl,hx,h⟩
   ·cases h
theorem fmt_next (p : List Nd) : ∀ (d : Nat) (b : Bool) (k : UInt8) (i j lv : Nat) (s : List UInt8),vAny p d b k i = some j → (fmtA p d b k i lv s).2 = j
 | 0,b,k,i,j,lv,s,h => by rw [vAny] at h; cases h
 | d + 1,true,k,i,j,lv,s,h => by
   obtain ⟨n,hn,_,hx⟩:=bl_node h
   rw [fmtA,hn]
   exact elems_next lv k (fun i j lv s h => fmt_next p d false k i j lv s h) _ _ _ _ hx
 | d + 1,false,k,i,j,lv,s,h => by
   obtain ⟨n,ks,hn,ha,hf,hk,hx⟩:=el_node h
   rw [fmtA,hn]
   simp only []
   cases hl : leafT n with
   | some t =>
     obtain ⟨rfl,_⟩:=leaf_kids hl hk
     rw [nextK] at hx
     injection hx
   | none =>
     simp only []
     by_cases h5 : n.kind = 5 ∧ n.pos = 0
     ·rw [if_pos h5]
      unfold kidsK at hk
      rw [if_pos h5.1,if_pos (by omega),h5.2] at hk
      injection hk with hk
      subst hk
      have e : nextK (fun k j => vAny p d (blkB k) k j) (List.replicate (Int.toNat 0) 101) (i + 1) = some (i + 1):=rfl
      rw [e] at hx
      injection hx
     ·rw [if_neg h5,hk]
      show (restE (fmtA p d) ks lv (i + 1)).2 = j
      have hsh:=(kids_shp hk).1
      unfold restE
      by_cases hks : ks = []
      ·subst hks; rw [if_pos rfl]; rw [nextK] at hx; injection hx
      ·rw [if_neg hks]
       unfold shpB at hsh
       rw [Bool.and_eq_true] at hsh
       exact blks_next lv (fun k i j lv s h => fmt_next p d true k i j lv s h) _ _ _ _ hsh.1 (args_next lv (fun k i j lv s h => fmt_next p d false k i j lv s h) ks true (i + 1) j hx)
def Fs (t : TokI) : Prop:=1 ≤ t.kind ∧ t.kind ≤ 4 ∧ ¬(t.kind = 2 ∧ t.str = [69,108,115,101])
theorem fs_mk {k num : Int} {s : List UInt8} (h : 1 ≤ k ∧ k ≤ 4) (h2 : k = 2 → s ≠ [69,108,115,101]) : Fs ⟨k,num,s,0⟩:=⟨h.1,h.2,fun h => h2 h.1 h.2⟩
theorem leaf_fs {n : Nd} {t : TokI} (hl : leafT n = some t) : Fs t:=by
 unfold leafT at hl
 repeat' split at hl
 all_goals first | (cases hl; done) | (injection hl with hl; subst hl; refine fs_mk (by omega) (fun h => ?_); first | omega | (intro h2; injection h2 with h2 _; exact absurd h2 (by decide)))
theorem head_fs (n : Nd) : Fs (headT n):=by
 unfold headT
 split
 ·exact fs_mk (by omega) (fun h => by omega)
 ·exact fs_mk (by omega) (fun _ => (form_shp n.kind).2.2)
theorem fmt_first (p : List Nd) {d : Nat} {k : UInt8} {i j : Nat} (lv : Nat) (h : vAny p d false k i = some j) : ∃ t r,Fs t ∧ ∀ s,(fmtA p d false k i lv s).1 = (s,t) :: r:=by
 cases d with
 | zero => rw [vAny] at h; cases h
 | succ d =>
   obtain ⟨n,ks,hn,ha,hf,hk,hx⟩:=el_node h
   cases hl : leafT n with
   | some t => exact ⟨t,[],leaf_fs hl,fun s => by rw [fmtA,hn]; simp only [hl]⟩
   | none =>
     by_cases h5 : n.kind = 5 ∧ n.pos = 0
     ·exact ⟨headT n,_,head_fs n,fun s => by rw [fmtA,hn]; simp only [hl]; rw [if_pos h5]⟩
     ·exact ⟨headT n,_,head_fs n,fun s => by rw [fmtA,hn]; simp only [hl]; rw [if_neg h5]⟩
theorem fmt_bfirst (p : List Nd) {d : Nat} {k : UInt8} {i j : Nat} (lv : Nat) (h : vAny p d true k i = some j) : ∃ r,∀ s,(fmtA p d true k i lv s).1 = (s,boT) :: r:=by
 cases d with
 | zero => rw [vAny] at h; cases h
 | succ d =>
   obtain ⟨n,hn,_,hx⟩:=bl_node h
   exact ⟨_,fun s => by rw [fmtA,hn]⟩
end
end Go.Proofs.YtnicnfchkdmieaaGreatDoor
