/- Sa Sc Sb Sd Se Tlc -/
import Derived.Test.YtoohondkpddmcaaGreatDoorYzz
import Derived.Test.YtoohondkpddmcaaGreatDoorYah
import Derived.Test.YtoohondkpddmcaaGreatDoorYaj
import Derived.Test.YtoohondkpddmcaaGreatDoorYae
namespace Go.Proofs.YtoohondkpddmcaaGreatDoor
set_option linter.unusedVariables false
set_option linter.unusedSimpArgs false
section
open Go.RowKit
abbrev Nd:=TokI
def declT:List (List UInt8×List UInt8):=[([83,99,111,112,101],[110,68]),([68,101,118,105,99,101],[115,68]),([80,111,119,101,114,82,101,115,111,117,114,99,101],[115,105,105,68]),([78,97,109,101],[115,100]),([77,101,116,104,111,100],[115,105,105,105,83]),([79,112,101,114,97,116,105,111,110,82,101,103,105,111,110],[115,105,105,105]),([70,105,101,108,100],[110,105,105,70]),([73,110,100,101,120,70,105,101,108,100],[110,110,105,105,70]),([85,110,105,116],[115,105]),([83,107,105,112],[105]),([77,117,116,101,120],[115,105]),([69,118,101,110,116],[115])]
def stmtT:List (List UInt8×List UInt8):=[([83,116,111,114,101],[101,116]),([73,102],[101,83]),([87,104,105,108,101],[101,83]),([82,101,116,117,114,110],[]),([66,114,101,97,107],[]),([67,111,110,116,105,110,117,101],[]),([82,101,108,101,97,115,101],[110]),([83,105,103,110,97,108],[110]),([82,101,115,101,116],[110]),([83,108,101,101,112],[101]),([78,111,116,105,102,121],[110,101]),([65,99,113,117,105,114,101],[110,105]),([87,97,105,116],[110,101])]
def exprT:List (List UInt8×List UInt8):=[([65,100,100],[101,101]),([83,117,98,116,114,97,99,116],[101,101]),([77,117,108,116,105,112,108,121],[101,101]),([68,105,118,105,100,101],[101,101]),([77,111,100],[101,101]),([65,110,100],[101,101]),([79,114],[101,101]),([88,111,114],[101,101]),([83,104,105,102,116,76,101,102,116],[101,101]),([83,104,105,102,116,82,105,103,104,116],[101,101]),([76,65,110,100],[101,101]),([76,79,114],[101,101]),([76,69,113,117,97,108],[101,101]),([76,76,101,115,115],[101,101]),([76,71,114,101,97,116,101,114],[101,101]),([67,111,110,99,97,116,101,110,97,116,101],[101,101]),([73,110,100,101,120],[101,101]),([78,111,116],[101]),([76,78,111,116],[101]),([83,105,122,101,79,102],[101]),([84,111,73,110,116,101,103,101,114],[101]),([84,111,66,117,102,102,101,114],[101]),([84,111,72,101,120,83,116,114,105,110,103],[101]),([84,111,68,101,99,105,109,97,108,83,116,114,105,110,103],[101]),([68,101,114,101,102,79,102],[101]),([82,101,102,79,102],[116]),([67,111,110,100,82,101,102,79,102],[110]),([79,98,106,101,99,116,84,121,112,101],[116]),([77,105,100],[101,101,101])]
def QcL (op:Int):Bool:=op==18||op==19
def Qcd (op:Int):Bool:=op==1||op==2||op==50||op==51
def QdZ (op:Int):Bool:=op==3||op==5||op==6||op==7||op==41||op==42||Qcd op||(decide (60<=op)&&decide (op<=88))
def Qaq (k:UInt8) (op:Int):Bool :=
 if k=110\/k=115 then op==3 else if k=105\/k=73 then op==1 else if k=101 then QdZ op
 else if k=116 then op==3||op==6||op==7||op==76||op==84
 else if k=100 then Qcd op else if k=80 then Qcd op||op==3
 else if k=68 then decide (10<=op)&&decide (op<=21)&&!QcL op
 else if k=70 then QcL op
 else if k=83 then (decide (30<=op)&&decide (op<=42))||op==5 else false
def QaZ (k:UInt8):Bool:=decide (65<=k.toNat)&&decide (k.toNat<=90)
def Qfh (k:UInt8):Bool:=k==73||k==80
def Qax (op:Int):List UInt8×List UInt8 :=
 if 10<=op/\op<=21 then declT.getD (op-10).toNat ([],[])
 else if 30<=op/\op<=42 then stmtT.getD (op-30).toNat ([],[])
 else if 60<=op/\op<=88 then exprT.getD (op-60).toNat ([],[])
 else if op=50 then ([66,117,102,102,101,114],[105,73])
 else if op=51 then ([80,97,99,107,97,103,101],[105,80]) else ([],[])
def Qkw (w:List UInt8):List (List UInt8×List UInt8)->Nat->Option Nat
 | [],_=>none
 | x::r,i=>if x.1=w then some i else Qkw w r (i+1)
def opW (w:List UInt8):Int :=
 match Qkw w exprT 60 with
 | some i=>i
 | none=>match Qkw w stmtT 30 with
   | some i=>i
   | none=>match Qkw w declT 10 with
     | some i=>i
     | none=>if w=[66,117,102,102,101,114] then 50 else if w=[80,97,99,107,97,103,101] then 51 else 0
def QiS (w:List UInt8):Option (Int×Nat) :=
 match w.getLast? with
 | none=>none
 | some c=>if w.dropLast=[76,111,99,97,108]/\48<=c.toNat/\c.toNat<56 then some (6,c.toNat-48)
   else if w.dropLast=[65,114,103]/\48<=c.toNat/\c.toNat<55 then some (7,c.toNat-48) else none
def Qf6 (s:List UInt8):Bool:=!QaJ s&&decide (Qbp s=0)&&decide ((QaG s).length=1)
def Qek (k:UInt8) (s:List UInt8):Bool:=QaW s&&(k != 115||Qf6 s)
inductive PR where
 | no (r:List TokI)
 | ok (r:List TokI) (ns:List Nd)
def atT (k:Int):List TokI->Bool
 | []=>false
 | t::_=>t.kind==k
def QeJ:List TokI->Bool
 | []=>false
 | t::_=>t.kind==2&&t.str==[69,108,115,101]
def Qvl (E:Int):List TokI->Int
 | []=>E
 | t::_=>t.pos
section
variable (sub:UInt8->List TokI->PR)
def Qfi (text:List UInt8):Nat->Nat->List Nd->List TokI->PR
 | 0,_,_,r=>.no r
 | f+1,m,ns,r=>match sub 101 r with
   | .no x=>.no x
   | .ok r1 n1=>if m+1=7\/atT 9 r1=false then (if atT 6 r1=true then .ok r1.tail (⟨5,0,text,(m+1:Nat)⟩::(ns++n1)) else .no r1)
     else Qfi text f (m+1) (ns++n1) r1.tail
def Qel (text:List UInt8) (r:List TokI):PR:=if atT 6 r=true then .ok r.tail [⟨5,0,text,0⟩] else Qfi sub text 7 0 [] r
def Qkx (k:UInt8) (text:List UInt8) (r:List TokI):PR :=
 if Qek k text=false then .no r
 else if Qaq k 3=false/\Qaq k 5=false then .no r
 else if Qaq k 5=true/\atT 5 r.tail=true then Qel sub text r.tail.tail
 else if Qaq k 3=false then .no r.tail
 else .ok r.tail [⟨3,0,text,0⟩]
def QbZ (k:UInt8):Nat->Nat->List Nd->List TokI->PR
 | 0,_,_,r=>.no r
 | f+1,m,ns,r=>if atT 8 r=true then .ok r.tail (⟨4,0,[],(m:Nat)⟩::ns)
   else if Qfh k=true/\0<m/\atT 9 r=false then .no r
   else match sub k (if Qfh k=true/\0<m then r.tail else r) with
    | .no x=>.no x
    | .ok r1 n1=>QbZ k f (m+1) (ns++n1) r1
def QbA (k:UInt8) (r:List TokI):PR:=if atT 7 r=true then QbZ sub k r.length 0 [] r.tail else .no r
def QcS:List UInt8->Bool->List Nd->List TokI->PR
 | [],_,ns,r=>if atT 6 r=true then .ok r.tail ns else .no r
 | k::ks,first,ns,r=>if QaZ k=true then (if atT 6 r=true then .ok r.tail ns else .no r)
   else if first=false/\atT 9 r=false then .no r
   else match sub k (if first=false then r.tail else r) with
    | .no x=>.no x
    | .ok r1 n1=>QcS ks false (ns++n1) r1
def QcT:List UInt8->List Nd->List TokI->PR
 | [],ns,r=>.ok r ns
 | k::ks,ns,r=>match QbA sub k r with
   | .no x=>.no x
   | .ok r1 n1=>QcT ks (ns++n1) r1
def Qb2 (kinds:List UInt8) (r:List TokI):PR :=
 if kinds=[] then .ok r [] else if atT 5 r=false then .no r
 else match QcS sub kinds true [] r.tail with
  | .no x=>.no x
  | .ok r1 n1=>QcT sub (kinds.dropWhile fun k=>!QaZ k) n1 r1
def Qky (k:UInt8) (w:List UInt8) (r:List TokI):PR :=
 match QiS w with
 | some (op,n)=>if Qaq k op=true then .ok r.tail [⟨op,n,[],0⟩] else .no r
 | none =>
   if opW w=0\/Qaq k (opW w)=false then .no r
   else if opW w=33 then (if atT 5 r.tail=true then (match Qb2 sub [101] r.tail with|.no x=>.no x|.ok r1 n1=>.ok r1 (⟨33,0,[],1⟩::n1)) else .ok r.tail [⟨33,0,[],0⟩])
   else match Qb2 sub (Qax (opW w)).2 r.tail with
    | .no x=>.no x
    | .ok r1 n1 =>
      if opW w=31/\QeJ r1=true then (match QbA sub 83 r1.tail with|.no x=>.no x|.ok r2 n2=>.ok r2 (⟨31,0,[],3⟩::(n1++n2)))
      else .ok r1 (⟨opW w,0,[],((Qax (opW w)).2.length:Nat)⟩::n1)
end
def Qe6:Nat->UInt8->List TokI->PR
 | 0,_,r=>.no r
 | f+1,k,r=>match r with
   | []=>.no []
   | t::q=>if t.kind=1 then Qkx (Qe6 f) k t.str r else if t.kind=2 then Qky (Qe6 f) k t.str r
     else if t.kind=3/\Qaq k 1=true then .ok q [⟨1,t.num,[],0⟩]
     else if t.kind=4/\Qaq k 2=true then .ok q [⟨2,0,t.str,0⟩] else .no r
def PGood (r:List TokI):PR->Prop
 | .no x=>∃ k,x=r.drop k
 | .ok x ns=>∃ k,k<=r.length/\x=r.drop k/\ns.length<=k
def PGood1 (r:List TokI):PR->Prop
 | .no x=>∃ k,x=r.drop k
 | .ok x ns=>∃ k,1<=k/\k<=r.length/\x=r.drop k/\ns.length<=k
theorem PGood1.good {r:List TokI} {x:PR} (h:PGood1 r x):PGood r x:=by
 cases x with
 | no y=>exact h
 | ok y ns=>obtain ⟨k,_,h2,h3,h4⟩:=h;exact ⟨k,h2,h3,h4⟩
theorem QcA {k:Int} {r:List TokI} (h:atT k r=true):1<=r.length:=by
 cases r with
 | nil=>cases h
 | cons t q=>simp
theorem PGood.after {r:List TokI} {j n:Nat} {x:PR} (hj:j<=r.length) (h:PGood (r.drop j) x):match x with|.no y=>∃ k,y=r.drop k|.ok y ns=>∃ k,j<=k/\k<=r.length/\y=r.drop k/\ns.length+j<=k:=by
 cases x with
 | no y=>obtain ⟨k,rfl⟩:=h;exact ⟨j+k,by rw [List.drop_drop]⟩
 | ok y ns =>
   obtain ⟨k,h1,rfl,h3⟩:=h;rw [List.length_drop] at h1;exact ⟨j+k,by omega,by omega,by rw [List.drop_drop],by omega⟩
section
variable {sub:UInt8->List TokI->PR} (hs:∀ k r,PGood1 r (sub k r))
include hs
theorem QiT (text:List UInt8) (R:List TokI):∀ (f m j:Nat) (ns:List Nd),j<=R.length->1<=j->ns.length+1<=j ->
  PGood1 R (Qfi sub text f m ns (R.drop j))
 | 0,m,j,ns,h,h1,h2=>⟨j,rfl⟩
 | f+1,m,j,ns,h,h1,h2=>by
   rw [Qfi];have hk:=hs 101 (R.drop j);cases hx:sub 101 (R.drop j) with
   | no x=>rw [hx] at hk;obtain ⟨k,rfl⟩:=hk;exact ⟨j+k,by rw [List.drop_drop]⟩
   | ok r1 n1 =>
     rw [hx] at hk;obtain ⟨k,k1,k2,rfl,k4⟩:=hk;rw [List.length_drop] at k2;rw [List.drop_drop];simp only [];split
     ·split
      ·rename_i h6
       have:=QcA h6;rw [List.length_drop] at this;rw [List.tail_drop];exact ⟨j+k+1,by omega,by omega,rfl,by simp only [List.length_cons,List.length_append];omega⟩
      ·exact ⟨_,rfl⟩
     ·rename_i h9
      have h9':atT 9 (R.drop (j+k))=true:=by
       cases h:atT 9 (R.drop (j+k)) with
       | true=>rfl
       | false=>exact absurd (Or.inr h) h9
      have:=QcA h9';rw [List.length_drop] at this;rw [List.tail_drop];exact QiT text R f (m+1) (j+k+1) _ (by omega) (by omega) (by simp only [List.length_append];omega)
theorem Qnl (text:List UInt8) (R:List TokI) (j:Nat) (h:j<=R.length) (h1:1<=j):PGood1 R (Qel sub text (R.drop j)):=by
 unfold Qel;split
 ·rename_i h6
  have:=QcA h6;rw [List.length_drop] at this;rw [List.tail_drop];exact ⟨j+1,by omega,by omega,rfl,by simp⟩
 ·exact QiT hs text R 7 0 j [] h h1 (by simp;omega)
theorem Qnm (k:UInt8) (text:List UInt8) (R:List TokI) (h:1<=R.length):PGood1 R (Qkx sub k text R):=by
 unfold Qkx;split
 ·exact ⟨0,rfl⟩
 split
 ·exact ⟨0,rfl⟩
 split
 ·rename_i h5
  have:=QcA h5.2;rw [List.length_tail] at this;rw [show R.tail.tail=R.drop 2 by cases R with|nil=>rfl|cons a q=>cases q<;>rfl];exact Qnl hs text R 2 (by omega) (by omega)
 split
 ·exact ⟨1,by rw [List.drop_one]⟩
 ·exact ⟨1,by omega,h,by rw [List.drop_one],by simp⟩
theorem QhZ (k:UInt8) (R:List TokI):∀ (f m j:Nat) (ns:List Nd),j<=R.length->1<=j->ns.length+1<=j ->
  PGood1 R (QbZ sub k f m ns (R.drop j))
 | 0,m,j,ns,h,h1,h2=>⟨j,rfl⟩
 | f+1,m,j,ns,h,h1,h2=>by
   rw [QbZ];split
   ·rename_i h8
    have:=QcA h8;rw [List.length_drop] at this;rw [List.tail_drop];exact ⟨j+1,by omega,by omega,rfl,by simp only [List.length_cons];omega⟩
   split
   ·exact ⟨j,rfl⟩
   rename_i h9
   obtain ⟨i,hi1,hi2,hi3⟩:∃ i,j<=i/\i<=R.length/\(if Qfh k=true/\0<m then (R.drop j).tail else R.drop j)=R.drop i:=by
    by_cases hl:Qfh k=true/\0<m
    ·rw [if_pos hl];have h9':atT 9 (R.drop j)=true:=by
      cases h:atT 9 (R.drop j) with
      | true=>rfl
      | false=>exact absurd ⟨hl.1,hl.2,h⟩ h9
     have:=QcA h9';rw [List.length_drop] at this;exact ⟨j+1,by omega,by omega,by rw [List.tail_drop]⟩
    ·rw [if_neg hl];exact ⟨j,by omega,h,rfl⟩
   rw [hi3];have hk:=hs k (R.drop i);cases hx:sub k (R.drop i) with
   | no x=>rw [hx] at hk;obtain ⟨k,rfl⟩:=hk;exact ⟨i+k,by rw [List.drop_drop]⟩
   | ok r1 n1 =>
     rw [hx] at hk;obtain ⟨q,k1,k2,rfl,k4⟩:=hk;rw [List.length_drop] at k2;rw [List.drop_drop];exact QhZ k R f (m+1) (i+q) _ (by omega) (by omega) (by simp only [List.length_append];omega)
theorem Qfu (k:UInt8) (R:List TokI):PGood1 R (QbA sub k R):=by
 unfold QbA;split
 ·rename_i h7
  have:=QcA h7;rw [<- List.drop_one];exact QhZ hs k R _ 0 1 [] this (by omega) (by simp)
 ·exact ⟨0,rfl⟩
theorem QiU (R:List TokI):∀ (ks:List UInt8) (first:Bool) (j:Nat) (ns:List Nd),j<=R.length->ns.length<=j ->
  match QcS sub ks first ns (R.drop j) with|.no x=>∃ k,x=R.drop k|.ok x ns=>∃ k,j+1<=k/\k<=R.length/\x=R.drop k/\ns.length+1<=k
 | [],first,j,ns,h,h2=>by
   rw [QcS];by_cases h6:atT 6 (R.drop j)=true
   ·rw [if_pos h6];have:=QcA h6;rw [List.length_drop] at this;exact ⟨j+1,by omega,by omega,by rw [List.tail_drop],by omega⟩
   ·rw [if_neg h6];exact ⟨j,rfl⟩
 | k::ks,first,j,ns,h,h2=>by
   rw [QcS];by_cases hb:QaZ k=true
   ·rw [if_pos hb];by_cases h6:atT 6 (R.drop j)=true
    ·rw [if_pos h6];have:=QcA h6;rw [List.length_drop] at this;exact ⟨j+1,by omega,by omega,by rw [List.tail_drop],by omega⟩
    ·rw [if_neg h6];exact ⟨j,rfl⟩
   rw [if_neg hb];by_cases h9:first=false/\atT 9 (R.drop j)=false
   ·rw [if_pos h9];exact ⟨j,rfl⟩
   rw [if_neg h9];obtain ⟨i,hi1,hi2,hi3⟩:∃ i,j<=i/\i<=R.length/\(if first=false then (R.drop j).tail else R.drop j)=R.drop i:=by
    by_cases hl:first=false
    ·rw [if_pos hl];have h9':atT 9 (R.drop j)=true:=by
      cases h:atT 9 (R.drop j) with
      | true=>rfl
      | false=>exact absurd ⟨hl,h⟩ h9
     have:=QcA h9';rw [List.length_drop] at this;exact ⟨j+1,by omega,by omega,by rw [List.tail_drop]⟩
    ·rw [if_neg hl];exact ⟨j,by omega,h,rfl⟩
   rw [hi3];have hk:=hs k (R.drop i);cases hx:sub k (R.drop i) with
   | no x=>rw [hx] at hk;obtain ⟨k,rfl⟩:=hk;exact ⟨i+k,by rw [List.drop_drop]⟩
   | ok r1 n1 =>
     rw [hx] at hk;obtain ⟨q,k1,k2,rfl,k4⟩:=hk;rw [List.length_drop] at k2;rw [List.drop_drop];simp only [];have:=QiU R ks false (i+q) (ns++n1) (by omega) (by simp only [List.length_append];omega);cases hy:QcS sub ks false (ns++n1) (R.drop (i+q)) with
     | no x=>rw [hy] at this;exact this
     | ok x n2=>rw [hy] at this;obtain ⟨z,z1,z2,z3,z4⟩:=this;exact ⟨z,by omega,z2,z3,z4⟩
theorem QiV (R:List TokI):∀ (ks:List UInt8) (j:Nat) (ns:List Nd),j<=R.length->ns.length+1<=j ->
  match QcT sub ks ns (R.drop j) with|.no x=>∃ k,x=R.drop k|.ok x ns=>∃ k,j<=k/\k<=R.length/\x=R.drop k/\ns.length+1<=k
 | [],j,ns,h,h2=>⟨j,Nat.le_refl _,h,rfl,h2⟩
 | k::ks,j,ns,h,h2=>by
   rw [QcT];have hk:=Qfu hs k (R.drop j);cases hx:QbA sub k (R.drop j) with
   | no x=>rw [hx] at hk;obtain ⟨k,rfl⟩:=hk;exact ⟨j+k,by rw [List.drop_drop]⟩
   | ok r1 n1 =>
     rw [hx] at hk;obtain ⟨q,k1,k2,rfl,k4⟩:=hk;rw [List.length_drop] at k2;rw [List.drop_drop];simp only [];have:=QiV R ks (j+q) (ns++n1) (by omega) (by simp only [List.length_append];omega);cases hy:QcT sub ks (ns++n1) (R.drop (j+q)) with
     | no x=>rw [hy] at this;exact this
     | ok x n2=>rw [hy] at this;obtain ⟨z,z1,z2,z3,z4⟩:=this;exact ⟨z,by omega,z2,z3,z4⟩
theorem Qhp (kinds:List UInt8) (R:List TokI) (j:Nat) (h:j<=R.length) (h1:1<=j) :
  match Qb2 sub kinds (R.drop j) with|.no x=>∃ k,x=R.drop k|.ok x ns=>∃ k,j<=k/\k<=R.length/\x=R.drop k/\ns.length+1<=k:=by
 unfold Qb2;by_cases hn:kinds=[]
 ·rw [if_pos hn];exact ⟨j,Nat.le_refl _,h,rfl,by simpa using h1⟩
 rw [if_neg hn];by_cases h5:atT 5 (R.drop j)=false
 ·rw [if_pos h5];exact ⟨j,rfl⟩
 rw [if_neg h5];have h5':atT 5 (R.drop j)=true:=by simpa using h5
 have:=QcA h5';rw [List.length_drop] at this;rw [List.tail_drop];have ha:=QiU hs R kinds true (j+1) [] (by omega) (by simp);cases hx:QcS sub kinds true [] (R.drop (j+1)) with
 | no x=>rw [hx] at ha;exact ha
 | ok r1 n1 =>
   rw [hx] at ha;obtain ⟨q,k1,k2,rfl,k4⟩:=ha;simp only [];have hb:=QiV hs R (kinds.dropWhile fun k=>!QaZ k) q n1 k2 k4;cases hy:QcT sub (kinds.dropWhile fun k=>!QaZ k) n1 (R.drop q) with
   | no x=>rw [hy] at hb;exact hb
   | ok x n2=>rw [hy] at hb;obtain ⟨z,z1,z2,z3,z4⟩:=hb;exact ⟨z,by omega,z2,z3,z4⟩
theorem Qnn (k:UInt8) (w:List UInt8) (R:List TokI) (h:1<=R.length):PGood1 R (Qky sub k w R):=by
 unfold Qky;cases hv:QiS w with
 | some x =>
   obtain ⟨op,n⟩:=x;simp only [];split
   ·exact ⟨1,by omega,h,by rw [List.drop_one],by simp⟩
   ·exact ⟨0,rfl⟩
 | none =>
   simp only [];split
   ·exact ⟨0,rfl⟩
   split
   ·split
    ·have:=Qhp hs [101] R 1 h (by omega);rw [<- List.drop_one];cases hx:Qb2 sub [101] (R.drop 1) with
     | no x=>rw [hx] at this;exact this
     | ok x ns=>rw [hx] at this;obtain ⟨z,z1,z2,z3,z4⟩:=this;exact ⟨z,z1,z2,z3,by simpa using z4⟩
    ·exact ⟨1,by omega,h,by rw [List.drop_one],by simp⟩
   ·have:=Qhp hs (Qax (opW w)).2 R 1 h (by omega);rw [<- List.drop_one];cases hx:Qb2 sub (Qax (opW w)).2 (R.drop 1) with
    | no x=>rw [hx] at this;exact this
    | ok x ns =>
      rw [hx] at this;obtain ⟨z,z1,z2,rfl,z4⟩:=this;simp only [];split
      ·rename_i he
       have hl:1<=(R.drop z).length:=by
        cases hd:R.drop z with
        | nil=>rw [hd] at he;cases he.2
        | cons t q=>simp
       rw [List.length_drop] at hl;rw [List.tail_drop];have hk:=Qfu hs 83 (R.drop (z+1));cases hy:QbA sub 83 (R.drop (z+1)) with
       | no x=>rw [hy] at hk;obtain ⟨k,rfl⟩:=hk;exact ⟨z+1+k,by rw [List.drop_drop]⟩
       | ok r2 n2 =>
         rw [hy] at hk;obtain ⟨q,k1,k2,rfl,k4⟩:=hk;rw [List.length_drop] at k2;exact ⟨z+1+q,by omega,by omega,by rw [List.drop_drop],by simp only [List.length_cons,List.length_append];omega⟩
      ·exact ⟨z,z1,z2,rfl,by simpa using z4⟩
end
theorem QfO:∀ (f:Nat) (k:UInt8) (R:List TokI),PGood1 R (Qe6 f k R)
 | 0,k,R=>⟨0,rfl⟩
 | f+1,k,R=>by
   cases R with
   | nil=>exact ⟨0,rfl⟩
   | cons t q =>
     unfold Qe6;simp only [];split
     ·exact Qnm (QfO f) _ _ _ (by simp)
     split
     ·exact Qnn (QfO f) _ _ _ (by simp)
     split
     ·exact ⟨1,by omega,by simp,rfl,by simp⟩
     split
     ·exact ⟨1,by omega,by simp,rfl,by simp⟩
     ·exact ⟨0,rfl⟩
end
section
open Go.RowKit
def Qbg (n:Nd) (k:UInt8):Bool :=
 (if n.kind=1 then true else if n.kind=6 then decide (n.num<8) else if n.kind=7 then decide (n.num<7) else n.num==0) &&
 (if n.kind=3\/n.kind=5 then Qek k n.str else if n.kind=2 then decide (n.str.length<=255) else n.str==[])
def Qb3 (n:Nd):Option (List UInt8) :=
 if n.kind=5 then (if 0<=n.pos/\n.pos<=7 then some (List.replicate n.pos.toNat 101) else none)
 else if n.kind=33 then (if 0<=n.pos/\n.pos<=1 then some (List.replicate n.pos.toNat 101) else none)
 else if n.kind=31/\n.pos=3 then some [101,83,83]
 else if ((Qax n.kind).2.length:Int)=n.pos then some (Qax n.kind).2 else none
def Qb4 (f:Nat->Option Nat):Nat->Nat->Option Nat
 | 0,i=>some i
 | m+1,i=>match f i with
   | none=>none
   | some j=>Qb4 f m j
def QbC (f:UInt8->Nat->Option Nat):List UInt8->Nat->Option Nat
 | [],i=>some i
 | k::ks,i=>match f k i with
   | none=>none
   | some j=>QbC f ks j
def Qaz (p:List Nd):Nat->Bool->UInt8->Nat->Option Nat
 | 0,_,_,_=>none
 | d+1,true,k,i=>match p[i]? with
   | none=>none
   | some n=>if n.kind=4/\n.num=0/\n.str=[]/\0<=n.pos then Qb4 (Qaz p d false k) n.pos.toNat (i+1) else none
 | d+1,false,k,i=>match p[i]? with
   | none=>none
   | some n=>if Qaq k n.kind=true/\Qbg n k=true then (match Qb3 n with
     | none=>none
     | some ks=>QbC (fun k j=>Qaz p d (QaZ k) k j) ks (i+1)) else none
def Qdq (p:List Nd):Nat->Nat->Bool
 | 0,i=>decide (p.length<=i)
 | f+1,i=>if p.length<=i then true else match Qaz p 32 false 68 i with
   | none=>false
   | some j=>Qdq p f j
def Qbk (p:List Nd):Bool:=decide (p.length<=2048)&&Qdq p p.length 0
theorem QiW {f:Nat->Option Nat} {L:Nat} (h:∀ i j,f i=some j->i<j/\j<=L):∀ (m i j:Nat),Qb4 f m i=some j->i<=L->i<=j/\j<=L
 | 0,i,j,e,hi=>by rw [Qb4] at e;injection e with e;omega
 | m+1,i,j,e,hi=>by
   rw [Qb4] at e;cases hf:f i with
   | none=>rw [hf] at e;cases e
   | some k =>
     rw [hf] at e;have:=h i k hf;have:=QiW h m k j e this.2;omega
theorem QiX {f:UInt8->Nat->Option Nat} {L:Nat} (h:∀ k i j,f k i=some j->i<j/\j<=L):∀ (ks:List UInt8) (i j:Nat),QbC f ks i=some j->i<=L->i<=j/\j<=L
 | [],i,j,e,hi=>by rw [QbC] at e;injection e with e;omega
 | k::ks,i,j,e,hi=>by
   rw [QbC] at e;cases hf:f k i with
   | none=>rw [hf] at e;cases e
   | some q =>
     rw [hf] at e;have:=h k i q hf;have:=QiX h ks q j e this.2;omega
theorem Qa5 (p:List Nd):∀ (d:Nat) (b:Bool) (k:UInt8) (i j:Nat),Qaz p d b k i=some j->i<j/\j<=p.length
 | 0,b,k,i,j,e=>by rw [Qaz] at e;cases e
 | d+1,true,k,i,j,e=>by
   rw [Qaz] at e;cases hn:p[i]? with
   | none=>rw [hn] at e;cases e
   | some n =>
     rw [hn] at e;simp only [] at e;have hi:i<p.length:=(List.getElem?_eq_some_iff.1 hn).1;split at e
     ·have:=QiW (fun i j=>Qa5 p d false k i j) _ _ _ e (by omega);omega
     ·cases e
 | d+1,false,k,i,j,e=>by
   rw [Qaz] at e;cases hn:p[i]? with
   | none=>rw [hn] at e;cases e
   | some n =>
     rw [hn] at e;simp only [] at e;have hi:i<p.length:=(List.getElem?_eq_some_iff.1 hn).1;split at e
     ·cases hk:Qb3 n with
      | none=>rw [hk] at e;cases e
      | some ks =>
        rw [hk] at e;have:=QiX (fun k i j=>Qa5 p d (QaZ k) k i j) _ _ _ e (by omega);omega
     ·cases e
end
section
open Go.RowKit
attribute [local go_sem] ByteArray.mk_append_mk Qah Qai Qag
def TAt (w:World) (b off:Nat) (t:TokI):Prop:=w.cell? ⟨b,off,none⟩=some (.int .i64 t.kind)/\w.cell? ⟨b,off+1,none⟩=some (.int .u64 t.num)/\w.cell? ⟨b,off+2,none⟩=some (.string ⟨t.str.toArray⟩)/\w.cell? ⟨b,off+3,none⟩=some (.int .i64 t.pos)
def tcI:List TokI->List Value
 | []=>[]
 | t::r=>.int .i64 t.kind::.int .u64 t.num::.string ⟨t.str.toArray⟩::.int .i64 t.pos::tcI r
theorem QdI:∀ l m:List TokI,tcI (l++m)=tcI l++tcI m
 | [],m=>rfl
 | t::r,m=>by rw [List.cons_append,tcI,tcI,QdI r m];rfl
theorem QcU:∀ l:List TokI,(tcI l).length=l.length * 4
 | []=>rfl
 | t::r=>by simp only [tcI,List.length_cons,QcU r];omega
theorem QqS:∀ (l:List TokI) (i:Nat) (h:i<l.length),(tcI l)[i * 4]?=some (.int .i64 l[i].kind)/\(tcI l)[i * 4+1]?=some (.int .u64 l[i].num)/\(tcI l)[i * 4+2]?=some (.string ⟨l[i].str.toArray⟩)/\(tcI l)[i * 4+3]?=some (.int .i64 l[i].pos)
 | t::r,0,_=>⟨rfl,rfl,rfl,rfl⟩
 | t::r,i+1,h=>by
   have:=QqS r i (by simpa using h);rw [show (i+1) * 4=i * 4+4 by omega];exact this
def TokB (w:World) (B:Nat) (v:Value) (l:List TokI):Prop :=
 ∃ (a:Option Addr) (cap:Nat),v = .slice a l.length cap/\l.length<=cap/\(l≠[]->∃ b off,a=some ⟨b,off,none⟩/\b<B/\∀ i (h:i<l.length),TAt w b (off+i * 4) l[i])
theorem TAt.belowB {w w':World} {B b off:Nat} {t:TokI} (h:TAt w b off t) (hb:Below B w w') (hB:b<B):TAt w' b off t:=by
 obtain ⟨h0,h1,h2,h3⟩:=h;refine ⟨?_,?_,?_,?_⟩
 ·rw [hb.cell (p:=⟨b,off,none⟩) hB];exact h0
 ·rw [hb.cell (p:=⟨b,off+1,none⟩) hB];exact h1
 ·rw [hb.cell (p:=⟨b,off+2,none⟩) hB];exact h2
 ·rw [hb.cell (p:=⟨b,off+3,none⟩) hB];exact h3
theorem TokB.below {w w':World} {B:Nat} {v:Value} {l:List TokI} (h:TokB w B v l) (hb:Below B w w'):TokB w' B v l:=by
 obtain ⟨a,cap,hv,hl,hc⟩:=h;refine ⟨a,cap,hv,hl,fun hn=>?_⟩;obtain ⟨b,off,ha,hB,hk⟩:=hc hn;exact ⟨b,off,ha,hB,fun i hi=>(hk i hi).belowB hb hB⟩
def Qt5:Value->Value
 | .slice a n cap=>sliced a 1 n cap 4
 | v=>v
theorem TokB.tail {w:World} {B:Nat} {v:Value} {t:TokI} {q:List TokI} (h:TokB w B v (t::q)):TokB w B (Qt5 v) q:=by
 obtain ⟨a,cap,rfl,hl,hc⟩:=h;obtain ⟨b,off,rfl,hB,hk⟩:=hc (by simp);rw [List.length_cons] at hl;refine ⟨some (if cap=1 then ⟨b,off,none⟩ else (Addr.add ⟨b,off,none⟩ (1 * 4))),cap-1,?_,by omega,fun hn=>?_⟩
 ·by_cases h1:cap=1<;>simp [Qt5,sliced,slicedAt,h1]
 ·have hq:=List.length_pos_iff.2 hn;rw [if_neg (by omega)];refine ⟨b,off+4,by simp [Addr.add],hB,fun i hi=>?_⟩;have:=hk (i+1) (by simpa using hi);rw [show off+(i+1) * 4=off+4+i * 4 by omega] at this;simpa using this
def NodesI (w:World) (B:Nat) (v:Value) (l:List Nd):Prop:=w.ownsRow B 46 4 v l.length (tcI l)
theorem NodesI.nil (w:World) (B:Nat):NodesI w B (.slice none 0 0) []:=⟨rfl,.inl ⟨rfl,rfl⟩⟩
theorem NodesI.below {w w':World} {B:Nat} {v:Value} {l:List Nd} (h:NodesI w B v l) (hb:Below w.heap.size w w'):NodesI w' B v l:=QbH h hb
theorem NodesI.base {w:World} {B B':Nat} {v:Value} {l:List Nd} (h:NodesI w B v l) (hB:B'<=B):NodesI w B' v l:=Qfm h hB
theorem NodesI.form {w:World} {B:Nat} {v:Value} {l:List Nd} (h:NodesI w B v l):∃ a c,v = .slice a l.length c:=by
 rcases h.2 with ⟨rfl,h0⟩|⟨g,cap,cur,rfl,_⟩
 ·exact ⟨none,0,by rw [h0]⟩
 ·exact ⟨_,cap,rfl⟩
theorem QaA {w:World} {B e z:Nat} {v:Value} {n:Nat} {xs:List Value} (h:w.ownsRow B e z v n xs) (p:Addr) (u:Value) (hp:v.ownBlock≠some p.block):(w.setCell p u).ownsRow B e z v n xs:=by
 refine QdO (row:=some p.block) h ⟨rfl,rfl,rfl,by simp [World.setCell],fun k hk hne=>Below.heap_setCell _ _ _ _ (fun e=>hne (by rw [e]))⟩ (fun g hg e=>hp (by rw [hg,e]))
def TGood (r:List TokI):Prop:=∀ t∈r,t.str.length<=65536/\(t.kind=2->t.str≠[])
theorem TGood.drop {r:List TokI} (h:TGood r) (k:Nat):TGood (r.drop k):=fun t ht=>h t (List.mem_of_mem_drop ht)
def SynG (m:Int) (w:World):Prop:=w.cell? ⟨0,0,none⟩=some (.int .i64 m) /\
 (∀ j (h:j<exprT.length),w.cell? ⟨5,2 * j,none⟩=some (.string ⟨exprT[j].1.toArray⟩)/\w.cell? ⟨5,2 * j+1,none⟩=some (.string ⟨exprT[j].2.toArray⟩)) /\
 (∀ j (h:j<stmtT.length),w.cell? ⟨4,2 * j,none⟩=some (.string ⟨stmtT[j].1.toArray⟩)/\w.cell? ⟨4,2 * j+1,none⟩=some (.string ⟨stmtT[j].2.toArray⟩)) /\
 (∀ j (h:j<declT.length),w.cell? ⟨3,2 * j,none⟩=some (.string ⟨declT[j].1.toArray⟩)/\w.cell? ⟨3,2 * j+1,none⟩=some (.string ⟨declT[j].2.toArray⟩))
def Quo (B:Nat):Prop:=0<B/\5<B/\4<B/\3<B
theorem SynG.low {m:Int} {w:World} (h:SynG m w):Quo w.heap.size :=
 ⟨World.block_lt_of_cell? w _ h.1,World.block_lt_of_cell? w _ (h.2.1 0 (by decide)).1,World.block_lt_of_cell? w _ (h.2.2.1 0 (by decide)).1,World.block_lt_of_cell? w _ (h.2.2.2 0 (by decide)).1⟩
theorem SynG.below {m:Int} {w w':World} {B:Nat} (h:SynG m w) (hb:Below B w w') (hB:Quo B):SynG m w':=by
 obtain ⟨h1,h2,h3,h4⟩:=h;refine ⟨(hb.cell (p:=⟨0,0,none⟩) hB.1).trans h1,fun j hj=>⟨?_,?_⟩,fun j hj=>⟨?_,?_⟩,fun j hj=>⟨?_,?_⟩⟩
 ·exact (hb.cell (p:=⟨_,2 * j,none⟩) hB.2.1).trans (h2 j hj).1
 ·exact (hb.cell (p:=⟨_,2 * j+1,none⟩) hB.2.1).trans (h2 j hj).2
 ·exact (hb.cell (p:=⟨_,2 * j,none⟩) hB.2.2.1).trans (h3 j hj).1
 ·exact (hb.cell (p:=⟨_,2 * j+1,none⟩) hB.2.2.1).trans (h3 j hj).2
 ·exact (hb.cell (p:=⟨_,2 * j,none⟩) hB.2.2.2).trans (h4 j hj).1
 ·exact (hb.cell (p:=⟨_,2 * j+1,none⟩) hB.2.2.2).trans (h4 j hj).2
end
section
open Go.RowKit
attribute [local go_sem] ByteArray.mk_append_mk Qah Qai Qag
theorem QlZ:(Tryz.prog.info? 46).map (fun i=>(i.zero,i.size,i.bytes))=some (some (.agg #[.int .i64 0,.int .u64 0,.string ⟨#[]⟩,.int .i64 0]),4,40):=by kernel_rfl
abbrev Qae (a b:Int) (c:List UInt8) (d:Int):Obj:=.cells #[.int .i64 a,.int .u64 b,.string ⟨c.toArray⟩,.int .i64 d] 46 (0,0)
theorem Qav {w:World} {ops:Array Oper} {rest:List Oper} {o:Oper} {a:Act} {Q:Exit->Act->World->Prop} (hgd:o.guard=none) (s x:Operand)
  (ho:o.op = .call { callee:=.builtin .append,args:=#[s,x],argTypes:=#[24,24] })
  (B:Nat) (v:Value) (l:List Nd) (hs:a.eval s=v) (hown:NodesI w B v l) (g:Nat) (t:Nd)
  (hx:a.eval x = .slice (some ⟨g,0,none⟩) 1 1) (hb:w.heap[g]?=some (Qae t.kind t.num t.str t.pos)) (hlen:l.length<=1000000) (hB:B<=w.heap.size)
  (h:∀ v' w',NodesI w' B v' (l++[t])->w.grownBy w' v.ownBlock->wpList Tryz.prog ops Q rest (a.put o.dst v') w'):wpList Tryz.prog ops Q (o::rest) a w:=by
 obtain ⟨i0,hi,hz0,hz1,hz2⟩:=info_parts QlZ;obtain ⟨c0,c1,c2,c3⟩:=Qac hb;refine wpList_append_own _ hgd s x _ ho B 46 i0 _ 4 40 Tryz.underlying24 hi hz0 hz1 hz2 rfl (by decide) v l.length _ hs hown ⟨g,0,none⟩ 1 1 (tcI [t]) hx rfl ?_ ?_ (by unfold maxLen;omega) (by omega) hB ?_
 ·intro j z hj
  match j,hj with
  | 0,hj=>cases hj;exact c0
  | 1,hj=>cases hj;exact c1
  | 2,hj=>cases hj;exact c2
  | 3,hj=>cases hj;exact c3
 ·intro z hz;simp only [tcI,List.mem_cons,List.not_mem_nil,or_false] at hz;rcases hz with rfl|rfl|rfl|rfl<;>rfl
 ·intro v' w' h1 h2 _;refine h v' w' ?_ h2;unfold NodesI;rw [List.length_append,QdI];exact h1
def SameB (W:World) (b p:Nat) (x:World):Prop:=x.heap[b]?=W.heap[b]?/\x.heap[p]?=W.heap[p]?
theorem SameB.some (W:World) (b p:Nat):(∃ x,SameB W b p x)=True:=by simp only [eq_iff_iff,iff_true];exact ⟨W,rfl,rfl⟩
theorem SameB.all (W:World) (b q:Nat) (p:Prop):(∀ x,SameB W b q x->p)=p:=by
 simp only [eq_iff_iff];exact ⟨fun h=>h W ⟨rfl,rfl⟩,fun h _ _=>h⟩
attribute [local go_sem] SameB.some SameB.all
end
section
open Go.RowKit
attribute [local go_sem] ByteArray.mk_append_mk Qah Qai Qag
theorem QqT (op:Int) (w:World):Calls Tryz.prog 180 #[.int .i64 op] w fun e w'=>e = .returned (.bool (QcL op))/\w=w':=by
 go_enter Tryz.func180,Tryz.ntmps180;go_wp2_with fail
 all_goals
  go_ret;exact ⟨by simp [QcL, *],rfl⟩
theorem QqU (op:Int) (w:World):Calls Tryz.prog 179 #[.int .i64 op] w fun e w'=>e = .returned (.bool (Qcd op))/\w=w':=by
 go_enter Tryz.func179,Tryz.ntmps179;go_wp2_with fail
 all_goals
  go_ret;exact ⟨by simp [Qcd, *],rfl⟩
theorem Qlh (op:Int) (b:Bool) (H:Hid (Qcd op=b)) (w:World):Calls Tryz.prog 179 #[.int .i64 op] w fun e w'=>e = .returned (.bool b)/\w=w':=by
 have:=QqU op w;rw [H.out] at this;exact this
theorem Qop (op:Int) (b:Bool) (H:Hid (QcL op=b)) (w:World):Calls Tryz.prog 180 #[.int .i64 op] w fun e w'=>e = .returned (.bool b)/\w=w':=by
 have:=QqT op w;rw [H.out] at this;exact this
theorem Qpq (k:UInt8) (w:World):Calls Tryz.prog 183 #[.int .u8 k.toNat] w fun e w'=>e = .returned (.bool (QaZ k))/\w=w':=by
 have h1:decide (65<=k.toNat)=decide (65<=(k.toNat:Int)):=by simp only [decide_eq_decide];omega
 have h2:decide (k.toNat<=90)=decide ((k.toNat:Int)<=90):=by simp only [decide_eq_decide];omega
 unfold QaZ;rw [h1,h2];go_enter Tryz.func183,Tryz.ntmps183;go_wp2_with fail
 all_goals
  go_ret;exact ⟨by first|(simp [*];done)|(simp [*];omega),rfl⟩
theorem Qao (k c:UInt8):((k.toNat:Int)==(c.toNat:Int))=(k==c):=(QfN k c).trans (by rw [Bool.eq_iff_iff,beq_iff_eq,beq_iff_eq];exact eq_comm)
theorem QqV (op:Int) (w:World):Calls Tryz.prog 178 #[.int .i64 op] w fun e w'=>e = .returned (.bool (QdZ op))/\w=w':=by
 obtain ⟨d,hd⟩:∃ d,Hid (Qcd op=d):=⟨_,Za rfl⟩;unfold QdZ;rw [hd.out];go_enter Tryz.func178,Tryz.ntmps178;cases d<;>go_wp2_with (go_at_call 179;((with_reducible refine (Qlh op _ hd _).mono ?_));rintro e w1 ⟨rfl,rfl⟩)
 all_goals
  go_ret;exact ⟨by first|(simp [*];done)|(simp [*];omega),rfl⟩
theorem QsC (op:Int) (b:Bool) (H:Hid (QdZ op=b)) (w:World):Calls Tryz.prog 178 #[.int .i64 op] w fun e w'=>e = .returned (.bool b)/\w=w':=by
 have:=QqV op w;rw [H.out] at this;exact this
theorem QsD (op:Int) (w:World):Calls Tryz.prog 124 #[.int .u8 110,.int .i64 op] w fun e w'=>e = .returned (.bool (Qaq 110 op))/\w=w':=by
 rw [show Qaq 110 op=(op==3) from rfl];go_enter Tryz.func124,Tryz.ntmps124;go_wp2_with fail
 all_goals
  go_ret;exact ⟨by first|(simp [*];done)|(simp [*];omega),rfl⟩
theorem QsE (op:Int) (w:World):Calls Tryz.prog 124 #[.int .u8 115,.int .i64 op] w fun e w'=>e = .returned (.bool (Qaq 115 op))/\w=w':=by
 rw [show Qaq 115 op=(op==3) from rfl];go_enter Tryz.func124,Tryz.ntmps124;go_wp2_with fail
 all_goals
  go_ret;exact ⟨by first|(simp [*];done)|(simp [*];omega),rfl⟩
theorem QsF (op:Int) (w:World):Calls Tryz.prog 124 #[.int .u8 105,.int .i64 op] w fun e w'=>e = .returned (.bool (Qaq 105 op))/\w=w':=by
 rw [show Qaq 105 op=(op==1) from rfl];go_enter Tryz.func124,Tryz.ntmps124;go_wp2_with fail
 all_goals
  go_ret;exact ⟨by first|(simp [*];done)|(simp [*];omega),rfl⟩
theorem Qup (op:Int) (w:World):Calls Tryz.prog 124 #[.int .u8 73,.int .i64 op] w fun e w'=>e = .returned (.bool (Qaq 73 op))/\w=w':=by
 rw [show Qaq 73 op=(op==1) from rfl];go_enter Tryz.func124,Tryz.ntmps124;go_wp2_with fail
 all_goals
  go_ret;exact ⟨by first|(simp [*];done)|(simp [*];omega),rfl⟩
theorem QsG (op:Int) (w:World):Calls Tryz.prog 124 #[.int .u8 101,.int .i64 op] w fun e w'=>e = .returned (.bool (Qaq 101 op))/\w=w':=by
 obtain ⟨d,hd⟩:∃ d,Hid (QdZ op=d):=⟨_,Za rfl⟩;rw [show Qaq 101 op=QdZ op from rfl,hd.out];go_enter Tryz.func124,Tryz.ntmps124;cases d<;>go_wp2_with (go_at_call 178;((with_reducible refine (QsC op _ hd _).mono ?_));rintro e w1 ⟨rfl,rfl⟩)
 all_goals
  go_ret;exact ⟨by first|(simp [*];done)|(simp [*];omega),rfl⟩
theorem QsH (op:Int) (w:World):Calls Tryz.prog 124 #[.int .u8 116,.int .i64 op] w fun e w'=>e = .returned (.bool (Qaq 116 op))/\w=w':=by
 rw [show Qaq 116 op=(op==3||op==6||op==7||op==76||op==84) from rfl];go_enter Tryz.func124,Tryz.ntmps124;go_wp2_with fail
 all_goals
  go_ret;exact ⟨by first|(simp [*];done)|(simp [*];omega),rfl⟩
theorem QsI (op:Int) (w:World):Calls Tryz.prog 124 #[.int .u8 100,.int .i64 op] w fun e w'=>e = .returned (.bool (Qaq 100 op))/\w=w':=by
 obtain ⟨d,hd⟩:∃ d,Hid (Qcd op=d):=⟨_,Za rfl⟩;rw [show Qaq 100 op=Qcd op from rfl,hd.out];go_enter Tryz.func124,Tryz.ntmps124;cases d<;>go_wp2_with (go_at_call 179;((with_reducible refine (Qlh op _ hd _).mono ?_));rintro e w1 ⟨rfl,rfl⟩)
 all_goals
  go_ret;exact ⟨by first|(simp [*];done)|(simp [*];omega),rfl⟩
theorem Quq (op:Int) (w:World):Calls Tryz.prog 124 #[.int .u8 80,.int .i64 op] w fun e w'=>e = .returned (.bool (Qaq 80 op))/\w=w':=by
 obtain ⟨d,hd⟩:∃ d,Hid (Qcd op=d):=⟨_,Za rfl⟩;rw [show Qaq 80 op=(Qcd op||op==3) from rfl,hd.out];go_enter Tryz.func124,Tryz.ntmps124;cases d<;>go_wp2_with (go_at_call 179;((with_reducible refine (Qlh op _ hd _).mono ?_));rintro e w1 ⟨rfl,rfl⟩)
 all_goals
  go_ret;exact ⟨by first|(simp [*];done)|(simp [*];omega),rfl⟩
theorem Qur (op:Int) (w:World):Calls Tryz.prog 124 #[.int .u8 68,.int .i64 op] w fun e w'=>e = .returned (.bool (Qaq 68 op))/\w=w':=by
 obtain ⟨d,hd⟩:∃ d,Hid (QcL op=d):=⟨_,Za rfl⟩;rw [show Qaq 68 op=(decide (10<=op)&&decide (op<=21)&&!QcL op) from rfl,hd.out];go_enter Tryz.func124,Tryz.ntmps124;cases d<;>go_wp2_with (go_at_call 180;((with_reducible refine (Qop op _ hd _).mono ?_));rintro e w1 ⟨rfl,rfl⟩)
 all_goals
  go_ret;exact ⟨by first|(simp [*];done)|(simp [*];omega),rfl⟩
theorem Qus (op:Int) (w:World):Calls Tryz.prog 124 #[.int .u8 70,.int .i64 op] w fun e w'=>e = .returned (.bool (Qaq 70 op))/\w=w':=by
 obtain ⟨d,hd⟩:∃ d,Hid (QcL op=d):=⟨_,Za rfl⟩;rw [show Qaq 70 op=QcL op from rfl,hd.out];go_enter Tryz.func124,Tryz.ntmps124;cases d<;>go_wp2_with (go_at_call 180;((with_reducible refine (Qop op _ hd _).mono ?_));rintro e w1 ⟨rfl,rfl⟩)
 all_goals
  go_ret;exact ⟨by first|(simp [*];done)|(simp [*];omega),rfl⟩
theorem Qut (op:Int) (w:World):Calls Tryz.prog 124 #[.int .u8 83,.int .i64 op] w fun e w'=>e = .returned (.bool (Qaq 83 op))/\w=w':=by
 rw [show Qaq 83 op=((decide (30<=op)&&decide (op<=42))||op==5) from rfl];go_enter Tryz.func124,Tryz.ntmps124;go_wp2_with fail
 all_goals
  go_ret;exact ⟨by first|(simp [*];done)|(simp [*];omega),rfl⟩
theorem QqW (k:UInt8) (op:Int) (w:World) (h110:k≠110) (h115:k≠115) (h105:k≠105) (h73:k≠73) (h101:k≠101) (h116:k≠116) (h100:k≠100) (h80:k≠80) (h68:k≠68) (h70:k≠70) (h83:k≠83):Calls Tryz.prog 124 #[.int .u8 k.toNat,.int .i64 op] w fun e w'=>e = .returned (.bool false)/\w=w':=by
 have e110:((k.toNat:Int)==110)=false:=(Qao k 110).trans (Zd h110);have e115:((k.toNat:Int)==115)=false:=(Qao k 115).trans (Zd h115);have e105:((k.toNat:Int)==105)=false:=(Qao k 105).trans (Zd h105);have e73:((k.toNat:Int)==73)=false:=(Qao k 73).trans (Zd h73);have e101:((k.toNat:Int)==101)=false:=(Qao k 101).trans (Zd h101);have e116:((k.toNat:Int)==116)=false:=(Qao k 116).trans (Zd h116);have e100:((k.toNat:Int)==100)=false:=(Qao k 100).trans (Zd h100);have e80:((k.toNat:Int)==80)=false:=(Qao k 80).trans (Zd h80);have e68:((k.toNat:Int)==68)=false:=(Qao k 68).trans (Zd h68);have e70:((k.toNat:Int)==70)=false:=(Qao k 70).trans (Zd h70);have e83:((k.toNat:Int)==83)=false:=(Qao k 83).trans (Zd h83);clear h110 h115 h105 h73 h101 h116 h100 h80 h68 h70 h83;go_enter Tryz.func124,Tryz.ntmps124;go_wp2_with fail;go_ret;exact ⟨rfl,rfl⟩
theorem QsJ (k:UInt8) (op:Int) (w:World):Calls Tryz.prog 124 #[.int .u8 k.toNat,.int .i64 op] w fun e w'=>e = .returned (.bool (Qaq k op))/\w=w':=by
 by_cases h110:k=110
 ·subst h110;exact QsD op w
 by_cases h115:k=115
 ·subst h115;exact QsE op w
 by_cases h105:k=105
 ·subst h105;exact QsF op w
 by_cases h73:k=73
 ·subst h73;exact Qup op w
 by_cases h101:k=101
 ·subst h101;exact QsG op w
 by_cases h116:k=116
 ·subst h116;exact QsH op w
 by_cases h100:k=100
 ·subst h100;exact QsI op w
 by_cases h80:k=80
 ·subst h80;exact Quq op w
 by_cases h68:k=68
 ·subst h68;exact Qur op w
 by_cases h70:k=70
 ·subst h70;exact Qus op w
 by_cases h83:k=83
 ·subst h83;exact Qut op w
 have e:Qaq k op=false:=by unfold Qaq;simp only [h110,h115,h105,h73,h101,h116,h100,h80,h68,h70,h83,or_self,if_false]
 rw [e];exact QqW k op w h110 h115 h105 h73 h101 h116 h100 h80 h68 h70 h83
theorem Quu (k:UInt8) (op:Int) (b:Bool) (H:Hid (Qaq k op=b)) (w:World):Calls Tryz.prog 124 #[.int .u8 k.toNat,.int .i64 op] w fun e w'=>e = .returned (.bool b)/\w=w':=by
 have:=QsJ k op w;rw [H.out] at this;exact this
theorem QgV (k:UInt8) (b:Bool) (H:Hid (QaZ k=b)) (w:World):Calls Tryz.prog 183 #[.int .u8 k.toNat] w fun e w'=>e = .returned (.bool b)/\w=w':=by
 have:=Qpq k w;rw [H.out] at this;exact this
end
section
open Go.RowKit
attribute [local go_sem] ByteArray.mk_append_mk Qah Qai Qag
end
end Go.Proofs.YtoohondkpddmcaaGreatDoor
