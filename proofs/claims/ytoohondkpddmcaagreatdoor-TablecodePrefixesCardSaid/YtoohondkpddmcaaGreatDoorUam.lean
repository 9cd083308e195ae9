/- Fseg Fcnt Fpaa Fpath Fepa Fapa -/
import Derived.Test.YtoohondkpddmcaaGreatDoorUzz
import Derived.Test.YtoohondkpddmcaaGreatDoorUal
import Derived.Test.YtoohondkpddmcaaGreatDoorUah
import Derived.Deep.AppendLies
import Derived.Deep.CutBlock
import Derived.Deep.DeepCutAuto
import Derived.OneCell
import Derived.WalkSmall
namespace Go.Proofs.YtoohondkpddmcaaGreatDoor
set_option maxHeartbeats 32000000
set_option linter.unusedVariables false
set_option linter.unusedSimpArgs false
section
open Go.RowKit
attribute [local go_sem] Qc2 Qdd ByteArray.mk_append_mk QcO QcP
def QgH (c i:Nat):Bool:=decide ((65<=c/\c<=90)\/c=95\/((48<=c/\c<=57)/\0<i))
def Qbt (c i n:Nat):Option Nat:=if c=0/\0<i then some n else if n<i then none else if QgH c i=true then some (i+1) else none
def QbV (s:List UInt8):Nat->Nat->Nat->List UInt8×Nat
 | 0,_,n=>(s.take n,0)
 | f+1,i,n=>match s[i]? with
   | none=>([],4)
   | some c=>match Qbt c.toNat i n with
     | none=>([],3)
     | some m=>QbV s f (i+1) m
def QbZ (s:List UInt8):List UInt8×Nat:=QbV s 4 0 0
def Qxl (x:List UInt8×Nat):Value:=.tuple #[.string ⟨x.1.toArray⟩,.int .i64 x.2]
theorem QhO (s:List UInt8) (f i n:Nat) (h:s.length<=i):QbV s (f+1) i n=([],4):=by
 rw [QbV,List.getElem?_eq_none h]
theorem QfY (s:List UInt8) (f i n:Nat) (h:i<s.length):QbV s (f+1) i n=match Qbt s[i].toNat i n with
  | none=>([],3)
  | some m=>QbV s f (i+1) m:=by
 rw [QbV,List.getElem?_eq_getElem h]
theorem Qip {c i n:Nat} (h:c=0) (h1:0<i):Qbt c i n=some n:=if_pos ⟨h,h1⟩
theorem QnU {c i n:Nat} (h:¬ (c=0/\0<i)) (h1:n<i):Qbt c i n=none:=by rw [Qbt,if_neg h,if_pos h1]
theorem QkB {c i n:Nat} (h:¬ (c=0/\0<i)) (h1:¬ n<i) (h2:(65<=c/\c<=90)\/c=95\/((48<=c/\c<=57)/\0<i)):Qbt c i n=some (i+1):=by rw [Qbt,if_neg h,if_neg h1,if_pos (by rw [QgH,decide_eq_true h2])]
theorem QnV {c i n:Nat} (h:¬ (c=0/\0<i)) (h1:¬ n<i) (h2:¬ ((65<=c/\c<=90)\/c=95\/((48<=c/\c<=57)/\0<i))):Qbt c i n=none:=by rw [Qbt,if_neg h,if_neg h1,if_neg (by rw [QgH,decide_eq_false h2];decide)]
theorem QnW (s:List UInt8) (w:World) (hm:s.length<=9223372036854775000) :
  Calls Tryz.prog 205 #[.string ⟨s.toArray⟩] w fun e w'=>e = .returned (Qxl (QbZ s))/\w=w':=by
 go_enter Tryz.func205,Tryz.ntmps205;go_wp2_with fail;go_loop [4,8] (fun n i=>∃ n0 i0:Nat,n = .int .i64 n0/\i = .int .i64 i0/\i0<=4/\n0<=i0/\n0<=s.length/\QbZ s=QbV s (4-i0) i0 n0) (fun n i=>4-(intOf i).toNat)
 case atStart=>exact ⟨0,0,rfl,rfl,by omega,by omega,by omega,rfl⟩
 case round =>
  obtain ⟨n,i,rfl,rfl,hi,hn,hns,hr⟩:=hrel;have HR:=Za hr;clear hr;by_cases h4:i<4
  ·obtain ⟨f,hf⟩:∃ f,4-i=f+1:=⟨3-i,by omega⟩;by_cases hl:i<s.length
   ·have HR2:Hid (QbZ s=match Qbt s[i].toNat i n with
     | none=>([],3)
     | some m=>QbV s (4-(i+1)) (i+1) m):=Za (by rw [HR.out,hf,QfY s f i n hl,show 4-(i+1)=f by omega])
    clear HR hf;have hc:=s[i].toNat_lt;generalize hcc:s[i].toNat=c at *;have hl':¬ (s.length:Int)<=i:=by omega
    have hgi:s[i]?=some s[i]:=List.getElem?_eq_getElem hl;go_wp2_with fail
    all_goals first
     | (go_ret2
        first
         | exact ⟨by rw [HR2.out,QnU (by omega) (by omega)];rfl,rfl⟩
         | exact ⟨by rw [HR2.out,QnV (by omega) (by omega) (by omega)];rfl,rfl⟩)
     | (go_round
        case measure=>simp [intOf];omega
        case rel =>
         first
          | exact ⟨n,i+1,rfl,by go_num,by omega,by omega,by omega,by rw [HR2.out,Qip (by omega) (by omega)]⟩
          | (exfalso;rename_i hx;simp only [beq_iff_eq] at hx;omega)
          | (exfalso;rename_i hx;simp at hx;omega)
          | (rename_i hx;simp only [beq_iff_eq] at hx;exact ⟨i+1,i+1,by go_num,by go_num,by omega,by omega,by omega,by rw [HR2.out,QkB (by omega) (by omega) (by omega)]⟩)
          | exact ⟨i+1,i+1,by go_num,by go_num,by omega,by omega,by omega,by rw [HR2.out,QkB (by omega) (by omega) (by omega)]⟩)
   ·have HR2:Hid (QbZ s=([],4)):=Za (by rw [HR.out,hf,QhO s f i n (by omega)]);have hl':(s.length:Int)<=i:=by omega
    go_wp2_with fail;go_ret2;exact ⟨by rw [HR2.out];rfl,rfl⟩
  ·obtain rfl:i=4:=by omega
   go_wp2_with fail;go_ret2;refine ⟨by rw [HR.out];rfl,rfl⟩
end
section
open Go.RowKit
attribute [local go_sem] Qc2 Qdd ByteArray.mk_append_mk QcO QcP
def QfZ (most:Int):List UInt8->Int×Int×Int
 | []=>(0,0,4)
 | d::_=>if d.toNat<3 then (0,0,3) else if most<d.toNat then (0,0,3) else ((d.toNat:Int),2,0)
def Qbi (s:List UInt8) (most:Int) (pre:Bool):Int×Int×Int:=match s with
 | []=>(0,0,4)
 | c::r =>
   if c.toNat=0 then (if pre=true then (0,1,0) else (0,0,3))
   else if c.toNat=46 then (if most<2 then (0,0,3) else (2,1,0))
   else if c.toNat=47 then (if most<3 then (0,0,3) else QfZ most r)
   else if most<1 then (0,0,3) else (1,0,0)
theorem QhP (r:List UInt8) (most:Int) (pre:Bool) (h:¬ most<3):Qbi (47::r) most pre=QfZ most r:=by
 show (if most<3 then (0,0,3) else QfZ most r)=_;rw [if_neg h]
theorem Qrm (r:List UInt8) (most:Int) (pre:Bool) (h:most<3):Qbi (47::r) most pre=(0,0,3):=by
 show (if most<3 then (0,0,3) else QfZ most r)=_;rw [if_pos h]
def Qxm (x:Int×Int×Int):Value:=.tuple #[.int .i64 x.1,.int .i64 x.2.1,.int .i64 x.2.2]
theorem Qjy {c d:UInt8} (h:c.toNat=d.toNat):c=d:=UInt8.toNat.inj h
theorem QiW (s:List UInt8) (most:Int) (pre:Bool) (w:World) (hm:s.length<=9223372036854775000) (h0:0<=most) (h255:most<=255) :
  Calls Tryz.prog 204 #[.string ⟨s.toArray⟩,.int .i64 most,.bool pre] w fun e w'=>e = .returned (Qxm (Qbi s most pre))/\w=w':=by
 match s,hm with
 | [],_ =>
   go_enter Tryz.func204,Tryz.ntmps204;go_wp2_with fail;go_ret3;exact ⟨rfl,rfl⟩
 | c::r,hm =>
   by_cases c0:c=0
   ·subst c0;cases pre
    ·go_enter Tryz.func204,Tryz.ntmps204;go_wp2_with fail;go_ret3;exact ⟨rfl,rfl⟩
    ·go_enter Tryz.func204,Tryz.ntmps204;go_wp2_with fail;go_ret3;exact ⟨rfl,rfl⟩
   ·by_cases c46:c=46
    ·subst c46;have HR:Hid (Qbi (46::r) most pre=if most<2 then (0,0,3) else (2,1,0)):=Za rfl;by_cases h2:most<2
     ·go_enter Tryz.func204,Tryz.ntmps204;go_wp2_with fail;go_ret3;exact ⟨by rw [HR.out,if_pos (by omega)];rfl,rfl⟩
     ·go_enter Tryz.func204,Tryz.ntmps204;go_wp2_with fail;go_ret3;exact ⟨by rw [HR.out,if_neg (by omega)];rfl,rfl⟩
    ·by_cases c47:c=47
     ·subst c47;by_cases h3:most<3
      ·have HR:Hid (Qbi (47::r) most pre=(0,0,3)):=Za (Qrm _ _ _ h3);go_enter Tryz.func204,Tryz.ntmps204;go_wp2_with fail;go_ret3;exact ⟨by rw [HR.out];rfl,rfl⟩
      ·match r,hm with
       | [],hm =>
         have HR:Hid (Qbi [47] most pre=(0,0,4)):=Za (QhP _ _ _ h3);go_enter Tryz.func204,Tryz.ntmps204;go_wp2_with fail;go_ret3;exact ⟨by rw [HR.out];rfl,rfl⟩
       | d::t,hm =>
         have HR:Hid (Qbi (47::d::t) most pre=if d.toNat<3 then (0,0,3) else if most<d.toNat then (0,0,3) else ((d.toNat:Int),2,0)):=Za (QhP _ _ _ h3);have hd:=d.toNat_lt;by_cases hd3:d.toNat<3
         ·have hd3':(d.toNat:Int)<3:=by omega
          go_enter Tryz.func204,Tryz.ntmps204;go_wp2_with fail;go_ret3;exact ⟨by rw [HR.out,if_pos (by omega)];rfl,rfl⟩
         ·have hd3':¬ (d.toNat:Int)<3:=by omega
          by_cases hmo:most<d.toNat
          ·go_enter Tryz.func204,Tryz.ntmps204;go_wp2_with fail;go_ret3;exact ⟨by rw [HR.out,if_neg (by omega),if_pos (by omega)];rfl,rfl⟩
          ·go_enter Tryz.func204,Tryz.ntmps204;go_wp2_with fail;go_ret3;exact ⟨by rw [HR.out,if_neg (by omega),if_neg (by omega)];rfl,rfl⟩
     ·have n0:¬ c.toNat=0:=fun h=>c0 (Qjy h);have n46:¬ c.toNat=46:=fun h=>c46 (Qjy h);have n47:¬ c.toNat=47:=fun h=>c47 (Qjy h);have e0:¬ (c.toNat:Int)=0:=by omega
      have e46:¬ (c.toNat:Int)=46:=by omega
      have e47:¬ (c.toNat:Int)=47:=by omega
      have HR:Hid (Qbi (c::r) most pre=if most<1 then (0,0,3) else (1,0,0)):=Za (by rw [Qbi,if_neg n0,if_neg n46,if_neg n47]);by_cases h1:most<1
      ·go_enter Tryz.func204,Tryz.ntmps204;go_wp2_with fail;go_ret3;exact ⟨by rw [HR.out,if_pos (by omega)];rfl,rfl⟩
      ·go_enter Tryz.func204,Tryz.ntmps204;go_wp2_with fail;go_ret3;exact ⟨by rw [HR.out,if_neg (by omega)];rfl,rfl⟩
end
section
open Go.RowKit
attribute [local go_sem] Qc2 Qdd ByteArray.mk_append_mk QcO QcP
theorem Qm9 (w:World):Calls Tryz.prog 114 #[.string ⟨([]:List UInt8).toArray⟩,.string ⟨#[92]⟩] w fun e w'=>e = .returned (.bool false)/\w=w':=by
 go_enter Tryz.func114,Tryz.ntmps114;go_wp2_with fail;go_ret;exact ⟨rfl,rfl⟩
theorem Qna (r:List UInt8) (w:World) (hm:r.length<=9223372036854775000):Calls Tryz.prog 114 #[.string ⟨(92::r).toArray⟩,.string ⟨#[92]⟩] w fun e w'=>e = .returned (.bool true)/\w=w':=by
 have h1:¬ ((r.length:Int)+1<1):=by omega
 go_enter Tryz.func114,Tryz.ntmps114;go_wp2_with fail;go_ret;exact ⟨rfl,rfl⟩
theorem QnX (c:UInt8) (r:List UInt8) (w:World) (hc:c≠92) (hm:r.length<=9223372036854775000):Calls Tryz.prog 114 #[.string ⟨(c::r).toArray⟩,.string ⟨#[92]⟩] w fun e w'=>e = .returned (.bool false)/\w=w':=by
 have h1:¬ ((r.length:Int)+1<1):=by omega
 go_enter Tryz.func114,Tryz.ntmps114;go_wp2_with fail;go_ret;exact ⟨by rw [show (c==92)=false by simpa using hc];rfl,rfl⟩
def QbI:List UInt8->Bool
 | []=>false
 | c::_=>c==92
theorem QlM (s:List UInt8) (w:World) (hm:s.length<=9223372036854775000):Calls Tryz.prog 66 #[.string ⟨s.toArray⟩,.string ⟨#[92]⟩] w fun e w'=>e = .returned (.bool (QbI s))/\w=w':=by
 match s,hm with
 | [],_ =>
   go_enter Tryz.func66,Tryz.ntmps66;go_wp2_with (go_at_call 114;refine (Qm9 _).mono ?_;rintro e w' ⟨rfl,rfl⟩);go_ret;exact ⟨rfl,rfl⟩
 | c::r,hm =>
   rw [List.length_cons] at hm;by_cases hc:c=92
   ·subst hc;go_enter Tryz.func66,Tryz.ntmps66;go_wp2_with (go_at_call 114;refine (Qna r _ (by omega)).mono ?_;rintro e w' ⟨rfl,rfl⟩);go_ret;exact ⟨rfl,rfl⟩
   ·have HC:Hid (QbI (c::r)=false):=Za (by rw [QbI];simpa using hc);go_enter Tryz.func66,Tryz.ntmps66;go_wp2_with (go_at_call 114;refine (QnX c r _ hc (by omega)).mono ?_;rintro e w' ⟨rfl,rfl⟩);go_ret;exact ⟨by rw [HC.out];rfl,rfl⟩
def Qa0:List UInt8->Nat
 | []=>0
 | c::r=>if c.toNat=94 then Qa0 r+1 else 0
theorem Qg7 (s:List UInt8):Qa0 s<=s.length:=by
 induction s with
 | nil=>exact Nat.le_refl _
 | cons c r ih=>rw [Qa0,List.length_cons];split<;>omega
theorem Qps (s:List UInt8) (k:Nat) (h:k<s.length) (hc:s[k].toNat=94):k+Qa0 (s.drop k)=(k+1)+Qa0 (s.drop (k+1)):=by
 rw [List.drop_eq_getElem_cons h,Qa0,if_pos hc];omega
theorem Qrn (s:List UInt8) (k:Nat) (h:k<s.length) (hc:¬ s[k].toNat=94):Qa0 (s.drop k)=0:=by
 rw [List.drop_eq_getElem_cons h,Qa0,if_neg hc]
def Qbl (s:List UInt8):Nat->Nat->List (List UInt8)->List (List UInt8)×Nat×Nat
 | 0,pos,acc=>(acc,pos,0)
 | n+1,pos,acc=>if (QbZ (s.drop pos)).2=0 then Qbl s n (pos+4) (acc++[(QbZ (s.drop pos)).1]) else ([],0,(QbZ (s.drop pos)).2)
structure PathR where
 root:Bool
 up:Nat
 segs:List (List UInt8)
 pos:Nat
 err:Nat
def Qcl (e:Nat):PathR:=⟨false,0,[],0,e⟩
def QaC (s:List UInt8) (root:Bool) (up pos:Nat):PathR :=
 if 32<up then Qcl 3 else
 let c:=Qbi (s.drop pos) (32-up) (decide (0<pos))
 if c.2.2=0 then
  let g:=Qbl s c.1.toNat (pos+c.2.1.toNat) []
  if g.2.2=0 then ⟨root,up,g.1,g.2.1,0⟩ else Qcl g.2.2
 else Qcl c.2.2.toNat
def QaA (s:List UInt8):PathR:=if QbI s=true then QaC s true 0 1 else QaC s false (Qa0 s) (Qa0 s)
def QkC (w:World) (r:PathR) (e:Ending) (w':World):Prop :=
 ∃ v,e = .returned (.tuple #[.agg #[.bool r.root,.int .i64 r.up,v],.int .i64 r.pos,.int .i64 r.err])/\w'.ownsRow w.heap.size 9 1 v r.segs.length (r.segs.map Qb4)/\Below w.heap.size w w'
theorem Qiq (tmps:Array Value) (w:World) (b:Nat) (c0 c1 c2:Value) (h2:tmps.getD 2 undef = .pointer (some ⟨b,0,none⟩)) (hb:w.heap[b]?=some (.cells #[c0,c1,c2] 128 (0,0))) :
  (results Tryz.f152 tmps).run Tryz.prog w = .ok (.tuple #[.agg #[c0,c1,c2],tmps.getD 3 undef,tmps.getD 4 undef]) w:=by
 have e0:w.cell? ⟨b,0,none⟩=some c0:=(cell_of_row w _ 0 _ _ _ hb).trans rfl;have e1:w.cell? ⟨b,1,none⟩=some c1:=(cell_of_row w _ 1 _ _ _ hb).trans rfl;have e2:w.cell? ⟨b,2,none⟩=some c2:=(cell_of_row w _ 2 _ _ _ hb).trans rfl;have h2':tmps[2]?.getD undef = .pointer (some ⟨b,0,none⟩):=by rw [<- h2];simp
 simp [results];go_simp
end
section
open Go.RowKit
theorem Qir (s:List UInt8) (p:Nat):List.take (s.length-p) (List.drop p s)=List.drop p s:=by rw [<- List.length_drop,List.take_length]
attribute [local go_sem] Qc2 Qdd ByteArray.mk_append_mk QcO QcP Qir
def PathAt (w w1:World) (root:Bool) (up:Int) (v:Value):Prop :=
 w1.heap[w.heap.size]?=some (.cells #[.bool false,.int .i64 0,.slice none 0 0] 128 (0,0))/\w1.heap[w.heap.size+1]?=some (.cells #[.bool root,.int .i64 up,v] 128 (0,0))/\Below w.heap.size w w1
theorem PathAt.start (w:World):PathAt w ((w.alloc (.cells #[.bool false,.int .i64 0,.slice none 0 0] 128)).alloc (.cells #[.bool false,.int .i64 0,.slice none 0 0] 128)) false 0 (.slice none 0 0) :=
 ⟨heap_alloc2_old _ _ _,heap_alloc2_new _ _ _,(Zb.alloc Zc _).alloc (by simp) _⟩
theorem PathAt.root {w w1:World} {root:Bool} {up:Int} {v:Value} (h:PathAt w w1 root up v) (r:Bool):PathAt w (w1.setCell ⟨w.heap.size+1,0,none⟩ (.bool r)) r up v :=
 ⟨by rw [heap_setCell_other _ _ _ _ (by simp)];exact h.1,(heap_setCell_same _ _ 0 _ _ _ h.2.1).trans rfl,h.2.2.setCell (by simp) _⟩
theorem PathAt.up {w w1:World} {root:Bool} {up:Int} {v:Value} (h:PathAt w w1 root up v) (u:Int):PathAt w (w1.setCell ⟨w.heap.size+1,1,none⟩ (.int .i64 u)) root u v :=
 ⟨by rw [heap_setCell_other _ _ _ _ (by simp)];exact h.1,(heap_setCell_same _ _ 1 _ _ _ h.2.1).trans rfl,h.2.2.setCell (by simp) _⟩
theorem PathAt.cells {w w1:World} {root:Bool} {up:Int} {v:Value} (h:PathAt w w1 root up v):w1.cell? ⟨w.heap.size+1,0,none⟩=some (.bool root)/\w1.cell? ⟨w.heap.size+1,1,none⟩=some (.int .i64 up)/\w1.cell? ⟨w.heap.size+1,2,none⟩=some v :=
 ⟨(cell_of_row w1 _ 0 _ _ _ h.2.1).trans rfl,(cell_of_row w1 _ 1 _ _ _ h.2.1).trans rfl,(cell_of_row w1 _ 2 _ _ _ h.2.1).trans rfl⟩
theorem PathAt.free {w w1:World} {root:Bool} {up:Int} {v:Value} (h:PathAt w w1 root up v) (j:Nat):w1.frozen? ⟨w.heap.size+1,j,none⟩=false:=frozen_of_row _ _ _ _ _ h.2.1
theorem PathAt.res {w w1:World} {root:Bool} {up:Int} {v:Value} (h:PathAt w w1 root up v):w1.cell? ⟨w.heap.size,0,none⟩=some (.bool false)/\w1.cell? ⟨w.heap.size,1,none⟩=some (.int .i64 0)/\w1.cell? ⟨w.heap.size,2,none⟩=some (.slice none 0 0) :=
 ⟨(cell_of_row w1 _ 0 _ _ _ h.1).trans rfl,(cell_of_row w1 _ 1 _ _ _ h.1).trans rfl,(cell_of_row w1 _ 2 _ _ _ h.1).trans rfl⟩
theorem PathAt.resFree {w w1:World} {root:Bool} {up:Int} {v:Value} (h:PathAt w w1 root up v) (j:Nat):w1.frozen? ⟨w.heap.size,j,none⟩=false:=frozen_of_row _ _ _ _ _ h.1
theorem PathAt.drew {w w1:World} {root:Bool} {up:Int} {v:Value} (h:PathAt w w1 root up v):PathAt w w1.drew root up v:=⟨h.1,h.2.1,h.2.2.drew⟩
def Qpt (s:List UInt8) (root:Bool):Nat:=if root=true then 0 else Qa0 s
def Qis (s:List UInt8) (root:Bool):Nat:=if root=true then 1 else Qa0 s
theorem QsQ (s:List UInt8):Qis s (QbI s)<=s.length:=by
 unfold Qis
 match s with
 | []=>exact Nat.le_refl _
 | c::r =>
   split
   ·simp
   ·exact Qg7 _
theorem QuC (s:List UInt8) (r:Bool):Qpt s r<=Qis s r:=by unfold Qpt Qis;split<;>omega
theorem Qma (s:List UInt8):QaA s=QaC s (QbI s) (Qpt s (QbI s)) (Qis s (QbI s)):=by
 unfold QaA Qpt Qis;cases QbI s<;>rfl
theorem PathAt.seg {w w1:World} {root:Bool} {up:Int} {v:Value} (h:PathAt w w1 root up v) (u:Value):PathAt w (w1.setCell ⟨w.heap.size+1,2,none⟩ u) root up u :=
 ⟨by rw [heap_setCell_other _ _ _ _ (by simp)];exact h.1,(heap_setCell_same _ _ 2 _ _ _ h.2.1).trans rfl,h.2.2.setCell (by simp) _⟩
theorem PathAt.lt {w w1:World} {root:Bool} {up:Int} {v:Value} (h:PathAt w w1 root up v):w.heap.size+2<=w1.heap.size:=by
 have:=lt_of_block h.2.1;omega
theorem PathAt.alloc {w w1:World} {root:Bool} {up:Int} {v:Value} (h:PathAt w w1 root up v) (o:Obj):PathAt w (w1.alloc o) root up v:=by
 have hl:=h.lt;exact ⟨(Below.heap_alloc _ _ _ (by omega)).trans h.1,(Below.heap_alloc _ _ _ (by omega)).trans h.2.1,h.2.2.alloc (by omega) _⟩
theorem PathAt.grown {w w1 w2:World} {root:Bool} {up:Int} {v:Value} {row:Option Nat} (h:PathAt w w1 root up v) (hg:w1.grownBy w2 row) (hr:∀ k,row=some k->w.heap.size+2<=k):PathAt w w2 root up v:=by
 have hl:=h.lt;refine ⟨(hg.block _ (by omega) ?_).trans h.1,(hg.block _ (by omega) ?_).trans h.2.1,h.2.2.grown hg (by omega) (fun k hk=>by have:=hr k hk;omega)⟩
 ·intro e;have:=hr _ e.symm;omega
 ·intro e;have:=hr _ e.symm;omega
theorem PathAt.put {w w1:World} {root:Bool} {up:Int} {v:Value} (h:PathAt w w1 root up v) (a b c:Value) :
  (((w1.setCell ⟨w.heap.size,0,none⟩ a).setCell ⟨w.heap.size,1,none⟩ b).setCell ⟨w.heap.size,2,none⟩ c).heap[w.heap.size]?=some (.cells #[a,b,c] 128 (0,0))
  /\ Below w.heap.size w (((w1.setCell ⟨w.heap.size,0,none⟩ a).setCell ⟨w.heap.size,1,none⟩ b).setCell ⟨w.heap.size,2,none⟩ c):=by
 refine ⟨?_,((h.2.2.setCell (by simp) _).setCell (by simp) _).setCell (by simp) _⟩;have e0:=(heap_setCell_same w1 _ 0 _ _ a h.1);have e1:=(heap_setCell_same _ _ 1 _ _ b e0);exact (heap_setCell_same _ _ 2 _ _ c e1).trans rfl
theorem QuD {w w1:World} {v:Value} {n:Nat} {xs:List Value} (h:w1.ownsRow (w.heap.size+2) 9 1 v n xs) (a b c:Value) :
  (((w1.setCell ⟨w.heap.size,0,none⟩ a).setCell ⟨w.heap.size,1,none⟩ b).setCell ⟨w.heap.size,2,none⟩ c).ownsRow w.heap.size 9 1 v n xs:=by
 obtain ⟨hl,hv⟩:=h;refine ⟨hl,?_⟩;rcases hv with hv|⟨g,cap,cur,h1,h2,h3,h4⟩
 ·exact .inl hv
 ·refine .inr ⟨g,cap,cur,h1,by omega,?_,h4⟩;rw [heap_setCell_other _ _ _ _ (by simp;omega),heap_setCell_other _ _ _ _ (by simp;omega),heap_setCell_other _ _ _ _ (by simp;omega)];exact h3
theorem QuE {w w1:World} {v:Value} {n:Nat} {xs:List Value} (h:w1.ownsRow (w.heap.size+2) 9 1 v n xs) (u:Value) :
  (w1.setCell ⟨w.heap.size+1,2,none⟩ u).ownsRow (w.heap.size+2) 9 1 v n xs:=by
 obtain ⟨hl,hv⟩:=h;refine ⟨hl,?_⟩;rcases hv with hv|⟨g,cap,cur,h1,h2,h3,h4⟩
 ·exact .inl hv
 ·refine .inr ⟨g,cap,cur,h1,by omega,?_,h4⟩;rw [heap_setCell_other _ _ _ _ (by simp;omega)];exact h3
theorem QkD {w w1:World} {root:Bool} {up:Int} {v:Value} (h:PathAt w w1 root up v) (s:List UInt8) (e:Nat) (hr:QaA s=Qcl e) :
  QkC w (QaA s) (.returned (.tuple #[.agg #[.bool false,.int .i64 0,.slice none 0 0],.int .i64 0,.int .i64 e])) (((w1.setCell ⟨w.heap.size,0,none⟩ (.bool false)).setCell ⟨w.heap.size,1,none⟩ (.int .i64 0)).setCell ⟨w.heap.size,2,none⟩ (.slice none 0 0)):=by
 rw [hr];exact ⟨_,rfl,World.ownsRow_nil _ _ _ _,(h.put _ _ _).2⟩
theorem Qro {w w1:World} {root:Bool} {up p:Nat} {v:Value} {acc:List (List UInt8)} (h:PathAt w w1 root up v) (ho:w1.ownsRow (w.heap.size+2) 9 1 v acc.length (acc.map Qb4)) (s:List UInt8) (hr:QaA s=⟨root,up,acc,p,0⟩) :
  QkC w (QaA s) (.returned (.tuple #[.agg #[.bool root,.int .i64 up,v],.int .i64 p,.int .i64 0])) (((w1.setCell ⟨w.heap.size,0,none⟩ (.bool root)).setCell ⟨w.heap.size,1,none⟩ (.int .i64 up)).setCell ⟨w.heap.size,2,none⟩ v):=by
 rw [hr];exact ⟨_,rfl,QuD ho _ _ _,(h.put _ _ _).2⟩
theorem Qf0 (l:List UInt8) (most:Int) (pre:Bool):0<=(Qbi l most pre).1/\(Qbi l most pre).1<=255/\0<=(Qbi l most pre).2.1/\(Qbi l most pre).2.1<=l.length/\0<=(Qbi l most pre).2.2:=by
 match l with
 | []=>simp [Qbi]
 | c::r =>
   simp only [Qbi];split
   ·split<;>simp<;>omega
   ·split
    ·split<;>simp<;>omega
    ·split
     ·split
      ·simp;omega
      ·match r with
       | []=>simp [QfZ]
       | d::t =>
         have:=d.toNat_lt;simp only [QfZ];split
         ·simp;omega
         ·split<;>simp<;>omega
     ·split<;>simp<;>omega
theorem Qmb (s:List UInt8):∀ f i n,(QbV s f i n).2=0->f=0\/i+f<=s.length
 | 0,_,_,_=>.inl rfl
 | f+1,i,n,h=>by
   right;by_cases hl:i<s.length
   ·rw [QfY s f i n hl] at h;cases hn:Qbt s[i].toNat i n with
    | none=>rw [hn] at h;simp at h
    | some m =>
      rw [hn] at h;rcases Qmb s f (i+1) m h with h0|h0<;>omega
   ·rw [QhO s f i n (by omega)] at h;simp at h
theorem Qmc (s:List UInt8) (h:(QbZ s).2=0):4<=s.length:=by
 rcases Qmb s 4 0 0 h with h0|h0<;>omega
theorem QkE (s:List UInt8) (most:Int) (pre:Bool) (a b c:Int) (H:Hid (Qbi s most pre=(a,b,c))) (w:World) (hm:s.length<=9223372036854775000) (h0:0<=most) (h255:most<=255) :
  Calls Tryz.prog 204 #[.string ⟨s.toArray⟩,.int .i64 most,.bool pre] w fun e w'=>e = .returned (.tuple #[.int .i64 a,.int .i64 b,.int .i64 c])/\w'=w :=
 (QiW s most pre w hm h0 h255).mono fun _ _ ⟨he,hw⟩=>⟨by rw [he,H.out];rfl,hw.symm⟩
theorem Qmd (s:List UInt8) (l:List UInt8) (e:Nat) (H:Hid (QbZ s=(l,e))) (w:World) (hm:s.length<=9223372036854775000) :
  Calls Tryz.prog 205 #[.string ⟨s.toArray⟩] w fun e' w'=>e' = .returned (.tuple #[.string ⟨l.toArray⟩,.int .i64 e])/\w=w' :=
 (QnW s w hm).mono fun _ _ ⟨he,hw⟩=>⟨by rw [he,H.out];rfl,hw⟩
theorem Qrp:(Tryz.prog.info? 9).map (fun i=>(i.zero,i.size,i.bytes))=some (some (.string ByteArray.empty),1,16):=by kernel_rfl
theorem Qme {s:List UInt8} {n p:Nat} {acc:List (List UInt8)} {l:List UInt8} (h:QbZ (s.drop p)=(l,0)):Qbl s (n+1) p acc=Qbl s n (p+4) (acc++[l]):=by
 rw [Qbl,h,if_pos rfl]
theorem Qpu {s:List UInt8} {n p e:Nat} {acc:List (List UInt8)} {l:List UInt8} (h:QbZ (s.drop p)=(l,e)) (he:¬ e=0):Qbl s (n+1) p acc=([],0,e):=by
 rw [Qbl,h,if_neg he]
theorem Qit {s:List UInt8} {root:Bool} {up pos:Nat} {a b c:Int} (h32:¬ 32<up) (h:Qbi (s.drop pos) (32-up) (decide (0<pos))=(a,b,c)) (hc:¬ c=0):QaC s root up pos=Qcl c.toNat:=by
 rw [QaC,if_neg h32,h];exact if_neg hc
theorem Qj4 {s:List UInt8} {root:Bool} {up pos:Nat} {a b:Int} (h32:¬ 32<up) (h:Qbi (s.drop pos) (32-up) (decide (0<pos))=(a,b,0)):QaC s root up pos=if (Qbl s a.toNat (pos+b.toNat) []).2.2=0 then ⟨root,up,(Qbl s a.toNat (pos+b.toNat) []).1,(Qbl s a.toNat (pos+b.toNat) []).2.1,0⟩ else Qcl (Qbl s a.toNat (pos+b.toNat) []).2.2:=by
 rw [QaC,if_neg h32,h];exact if_pos rfl
theorem PathAt.drewN {w w1:World} {root:Bool} {up:Int} {v:Value} (h:PathAt w w1 root up v) (n:Nat):PathAt w (w1.drewN n) root up v:=⟨by simpa using h.1,by simpa using h.2.1,below_drewN h.2.2 n⟩
def QsR (w:World) (s:List UInt8) (root:Bool) (up:Nat) (n p0:Nat) (i6 i62:Value) (wr:World):Prop :=
 ∃ (k p:Nat) (acc:List (List UInt8)) (v:Value),i6 = .int .i64 p/\i62 = .int .i64 k/\k<=n/\p<=s.length/\acc.length=k/\Hid (Qbl s n p0 []=Qbl s (n-k) p acc)/\Hid (PathAt w wr root up v)/\Hid (wr.ownsRow (w.heap.size+2) 9 1 v acc.length (acc.map Qb4))
theorem QsS {w wr w1:World} {s:List UInt8} {root:Bool} {up n p0 k p:Nat} {acc:List (List UInt8)} {v:Value} {l:List UInt8} {g cap:Nat} {o:Obj} (hk:k<n) (hl:acc.length=k)
  (HG:Hid (Qbl s n p0 []=Qbl s (n-k) p acc)) (HP:Hid (PathAt w wr root up v)) (HO:Hid (wr.ownsRow (w.heap.size+2) 9 1 v acc.length (acc.map Qb4)))
  (HS:Hid (QbZ (s.drop p)=(l,0))) (h4:p+4<=s.length)
  (H1:Hid (w1.ownsRow (w.heap.size+2) 9 1 (.slice (some ⟨g,0,none⟩) (acc.length+1) cap) (acc.length+1) (acc.map Qb4++[.string ⟨l.toArray⟩]))) (H2:Hid ((wr.alloc o).grownBy w1 v.ownBlock)) :
  QsR w s root up n p0 (.int .i64 ((p:Int)+4)) (.int .i64 ((k:Int)+1)) (w1.setCell ⟨w.heap.size+1,2,none⟩ (.slice (some ⟨g,0,none⟩) (acc.length+1) cap)):=by
 refine ⟨k+1,p+4,acc++[l],.slice (some ⟨g,0,none⟩) (acc.length+1) cap,by go_num,by go_num,by omega,by omega,by simp [hl],Za ?_,Za ?_,Za ?_⟩
 ·rw [HG.out,show n-k=(n-(k+1))+1 by omega,Qme HS.out]
 ·exact ((HP.out.alloc o).grown H2.out (fun k hk=>(HO.out.lt k hk).1)).seg _
 ·have h:=QuE H1.out (.slice (some ⟨g,0,none⟩) (acc.length+1) cap);rw [List.length_append,List.map_append];exact h
theorem Qmf {w:World} {B e z:Nat} {v:Value} {n:Nat} {xs:List Value} (h:w.ownsRow B e z v n xs):∃ (a:Option Addr) (m c:Nat),v = .slice a m c:=by
 rcases h.2 with ⟨h,_⟩|⟨g,cap,cur,h,_⟩
 ·exact ⟨_,_,_,h⟩
 ·exact ⟨_,_,_,h⟩
theorem QsT (s:List UInt8) (w:World) (hm:s.length<=9223372036854774000):Calls Tryz.prog 152 #[.string ⟨s.toArray⟩] w (QkC w (QaA s)):=by
 have HR:=Za (Qma s);have hple:=QsQ s;have hule:=QuC s (QbI s);have HU:Hid (Qpt s (QbI s)=if QbI s=true then 0 else Qa0 s):=Za rfl;have HQ:Hid (Qis s (QbI s)=if QbI s=true then 1 else Qa0 s):=Za rfl;generalize Qpt s (QbI s)=up at *;generalize Qis s (QbI s)=pos at *;go_enter Tryz.func152,Tryz.ntmps152;go_wp2_with fail;refine (QlM s _ (by omega)).mono ?_;rintro e w1 ⟨rfl,hw1⟩;have HP:Hid (PathAt w w1 false 0 (.slice none 0 0)):=Za (hw1▸PathAt.start w);clear hw1;generalize QbI s=root at *;go_upto_if 13 with fail;go_cut [6] (fun i wx=>i = .int .i64 (if root=true then 1 else 0)/\Hid (PathAt w wx root 0 (.slice none 0 0)))
 case first =>
  have f0:=HP.out.free 0;have c0:=HP.out.cells.1;cases root
  ·go_wp2_with fail;go_meet;exact ⟨rfl,HP⟩
  ·go_wp2_with fail;go_meet;exact ⟨rfl,Za (HP.out.root true)⟩
 case rest =>
  obtain ⟨rfl,HP1⟩:=hcut;clear HP;obtain ⟨w2,rfl⟩:∃ x:World,x=wc:=⟨_,rfl⟩;have c0:=HP1.out.cells.1;go_upto_block 0 with fail;go_cut [6] (fun i wx=>i = .int .i64 pos/\w2=wx)
  case first =>
   cases root
   ·have HQ':Hid (pos=Qa0 s):=HQ;clear HQ HU HR;go_wp2_with fail;go_loop [6] (fun i=>∃ k:Nat,i = .int .i64 k/\k<=s.length/\Qa0 s=k+Qa0 (s.drop k)) (fun i=>s.length-(intOf i).toNat)
    case atStart=>exact ⟨0,rfl,Nat.zero_le _,by simp⟩
    case round =>
     obtain ⟨k,rfl,hk,hc⟩:=hrel;have HC:=Za hc;clear hc;by_cases hl:k<s.length
     ·by_cases h94:s[k].toNat=94
      ·have h94':(s[k].toNat:Int)=94:=by omega
       go_wp2_with fail;go_round
       case rel=>exact ⟨k+1,by go_num,by omega,by rw [HC.out,Qps s k hl h94]⟩
       case measure=>simp [intOf];omega
      ·have h94':¬ (s[k].toNat:Int)=94:=by omega
       have HK:Hid (pos=k):=Za (by rw [HQ'.out,HC.out,Qrn s k hl h94];omega);go_wp2_with fail;go_meet;exact ⟨by rw [HK.out],rfl⟩
     ·have HK:Hid (pos=k):=Za (by rw [HQ'.out,HC.out,List.drop_eq_nil_of_le (by omega)]<;>rfl);go_wp2_with fail;go_meet;exact ⟨by rw [HK.out],rfl⟩
   ·have HQ':Hid (pos=1):=HQ;clear HQ HU HR;go_wp2_with fail;refine wp_loop_rounds 1 ?_;rw [rounds_succ];go_wp2_with fail;go_meet;exact ⟨by rw [HQ'.out];rfl,rfl⟩
  case rest =>
   obtain ⟨rfl,rfl⟩:=hcut;have c1:=HP1.out.cells.2.1;have f1:=HP1.out.free 1;go_upto_if 34 with fail;go_cut [] (fun wx=>Hid (PathAt w wx root up (.slice none 0 0)))
   case first =>
    cases root
    ·have HE:Hid (up=pos):=Za (HU.out.trans HQ.out.symm);clear HU HQ HR;go_wp2_with fail;go_meet;exact Za (by rw [HE.out];exact HP1.out.up pos)
    ·have HE:Hid (up=0):=Za HU.out;clear HU HQ HR;go_wp2_with fail;go_meet;exact Za (by rw [HE.out];exact HP1.out)
   case rest =>
    clear HP1 c0 c1 f1 HU HQ;obtain ⟨w3,rfl⟩:∃ x:World,x=wc:=⟨_,rfl⟩;have HP:=hcut;clear hcut;have c1:=HP.out.cells.2.1;have f2:=HP.out.free 2;obtain ⟨r0,r1,r2⟩:=HP.out.res;have g0:=HP.out.resFree 0;have g1:=HP.out.resFree 1;have g2:=HP.out.resFree 2;by_cases h32:32<up
    ·have h32':(32:Int)<up:=by omega
     have HR2:Hid (QaA s=Qcl 3):=Za (by rw [HR.out,QaC,if_pos h32]);go_wp2_with fail;exact bodyPost_ret (Qiq _ _ _ _ _ _ rfl (HP.out.put _ _ _).1) rfl (QkD HP.out s 3 HR2.out)
    ·have h32':¬ (32:Int)<up:=by omega
     obtain ⟨⟨a,b,c⟩,hcn⟩:∃ x,x=Qbi (s.drop pos) (32-up) (decide (0<pos)):=⟨_,rfl⟩;obtain ⟨ha0,ha1,hb0,hb1,hc0⟩:=Qf0 (s.drop pos) (32-up) (decide (0<pos));rw [<- hcn] at ha0 ha1 hb0 hb1 hc0;have HC:Hid (Qbi (s.drop pos) (32-up) (decide (0<pos))=(a,b,c)):=Za hcn.symm;clear hcn;rw [List.length_drop] at hb1;simp only at ha0 ha1 hb0 hb1 hc0;have hb2:(pos:Int)+b<=s.length:=by omega
     have hl1:(List.drop pos s).length<=9223372036854775000:=by rw [List.length_drop];omega
     have h3a:0<=32-(up:Int):=by omega
     have h3b:32-(up:Int)<=255:=by omega
     have hwr:IntKind.i64.wrap (32-(up:Int))=32-(up:Int):=IntWalk.i64_in _ (by omega);go_upto_region 12 with fail;go_quiet ((go_at_call 204;with_reducible refine Calls.quiet_of_same (QkE (s.drop pos) _ _ a b c HC _ hl1 h3a h3b)));clear hwr hl1 h3a h3b;have HPn:Hid (PathAt w (w3.drewN nq) root up (.slice none 0 0)):=Za (HP.out.drewN nq);by_cases hce:c=0
     ·subst hce;have HR2:Hid _:=Za (HR.out.trans (Qj4 h32 HC.out));clear HR HC;obtain ⟨n,rfl⟩:=Int.eq_ofNat_of_zero_le ha0;obtain ⟨m,rfl⟩:=Int.eq_ofNat_of_zero_le hb0;simp only [Int.toNat_natCast] at HR2;have hpm:pos+m<=s.length:=by omega
      clear hb2 hb1 ha0 hb0 hc0;clear HP;generalize hww:w3.drewN nq=w4 at *;clear hww;go_wp2_with fail;go_loopw [6,62] (fun i6 i62 wr=>QsR w s root up n (pos+m) i6 i62 wr) (fun _ i _=>n-(intOf i).toNat)
      case atStart=>exact ⟨0,pos+m,[],_,by go_num,rfl,Nat.zero_le _,hpm,rfl,Za rfl,HPn,Za (World.ownsRow_nil _ _ _ _)⟩
      case round =>
       obtain ⟨k,p,acc,v,rfl,rfl,hk,hp,hacc,HG,HP,HO⟩:=hrel;have HA:=Za hacc;have hal:acc.length<=n:=by omega
       clear hacc HPn;by_cases hlt:k<n
       ·obtain ⟨⟨l,e⟩,hsg⟩:∃ x,x=QbZ (s.drop p):=⟨_,rfl⟩;have HS:Hid (QbZ (s.drop p)=(l,e)):=Za hsg.symm;clear hsg;have c2:=HP.out.cells.2.2;have f2:=HP.out.free 2;obtain ⟨r0,r1,r2⟩:=HP.out.res;have g0:=HP.out.resFree 0;have g1:=HP.out.resFree 1;have g2:=HP.out.resFree 2;by_cases he:e=0
        ·subst he;have h4:p+4<=s.length:=by
          have:=Qmc (s.drop p) (by rw [HS.out]);rw [List.length_drop] at this;omega
         obtain ⟨i0,hi,hz0,hz1,hz2⟩:=info_parts Qrp;go_wp2_with fail;((with_reducible refine (Qmd (s.drop p) l 0 HS _ (by rw [List.length_drop];omega)).mono ?_));rintro e w' ⟨rfl,rfl⟩;have hba:w.heap.size+2<=(wr.alloc (.cells #[.string ⟨l.toArray⟩] 9)).heap.size:=by have:=HP.out.lt;simp;omega
         go_wp2_with (at_builtin;refine wpList_append_lies _ rfl _ _ 49 rfl (w.heap.size+2) 9 i0 _ 1 16 Tryz.underlying49 hi hz0 hz1 hz2 rfl (by omega) v acc.length _ rfl (HO.out.alloc _) ⟨wr.heap.size,0,none⟩ 1 1 [.string ⟨l.toArray⟩] rfl rfl (World.news_of_block (heap_alloc_new wr _)) (by intro u hu;simp at hu;subst hu;rfl) (by omega) (by unfold maxLen;omega) (by omega) hba _ rfl ?_;intro g cap w5 hown hgrow hat hlt5;have H1:=Za hown;have H2:=Za hgrow;have HP5:Hid (PathAt w w5 root up v):=Za ((HP.out.alloc _).grown hgrow (fun k hk=>(HO.out.lt k hk).1));have f5:=HP5.out.free 2;have c5:=HP5.out.cells.2.2;clear hown hgrow hat hlt5 r0 r1 r2 g0 g1 g2 c2 f2);go_roundw
         case rel=>exact QsS hlt HA.out HG HP HO HS h4 H1 H2
         case measure=>simp [intOf];omega
        ·have he':((e:Int) != 0)=true:=by simpa using he
         have HR3:Hid (QaA s=Qcl e):=Za (by rw [HR2.out,HG.out,show n-k=(n-k-1)+1 by omega,Qpu HS.out he,if_neg he]);go_wp2_with fail;((with_reducible refine (Qmd (s.drop p) l e HS _ (by rw [List.length_drop];omega)).mono ?_));rintro e w' ⟨rfl,rfl⟩;go_wp2_with fail;exact bodyPost_ret (Qiq _ _ _ _ _ _ rfl (HP.out.put _ _ _).1) rfl (QkD HP.out s _ HR3.out)
       ·obtain rfl:k=n:=by omega
        have HR3:Hid (QaA s=⟨root,up,acc,p,0⟩):=Za (by rw [HR2.out,HG.out,Nat.sub_self]<;>rfl);obtain ⟨va,vn,vc,rfl⟩:=Qmf HO.out;obtain ⟨c0,c1,c2⟩:=HP.out.cells;obtain ⟨r0,r1,r2⟩:=HP.out.res;have g0:=HP.out.resFree 0;have g1:=HP.out.resFree 1;have g2:=HP.out.resFree 2;go_wp2_with fail;exact bodyPost_ret (Qiq _ _ _ _ _ _ rfl (HP.out.put _ _ _).1) rfl (Qro HP.out HO.out s HR3.out)
     ·have HR2:Hid (QaA s=Qcl c.toNat):=Za (HR.out.trans (Qit h32 HC.out hce));clear HR HC;obtain ⟨c',rfl⟩:=Int.eq_ofNat_of_zero_le hc0;have hcn:((c':Int) != 0)=true:=by simpa using hce
      go_wp2_with fail;exact bodyPost_ret (Qiq _ _ _ _ _ _ rfl (HPn.out.put _ _ _).1) rfl (QkD HPn.out s c' HR2.out)
end
section
open Go.RowKit
attribute [local go_sem] Qc2 Qdd ByteArray.mk_append_mk QcO QcP Qir
def Qav (n:Nat):List UInt8:=if n=0 then [0] else if n=2 then [46] else if 2<n then 47::Qaz n 1 else []
def Qci (x:List UInt8):List UInt8:=x++List.take (4-x.length) [0,0,0]
def Qbv (root:Bool):List UInt8:=if root=true then [92] else []
def Qbg (root:Bool) (up:Nat) (l:List (List UInt8)):List UInt8:=Qbv root++List.replicate up 94++Qav l.length++l.flatMap Qci
theorem Qmg (l:List (List UInt8)) (k:Nat) (h:k<l.length):(l.take (k+1)).flatMap Qci=(l.take k).flatMap Qci++Qci l[k]:=by
 rw [List.take_succ_eq_append_getElem h,List.flatMap_append];simp
theorem QsU (k:Nat) (p:List UInt8):p++List.replicate (k+1) (94:UInt8)=(p++List.replicate k 94)++[94]:=by
 rw [List.append_assoc,<- List.replicate_succ']
def Qw0 (w:World) (x:List UInt8) (e:Ending) (w':World):Prop:=∃ s:List UInt8,Hid (s=x)/\s.length<=1200/\e = .returned (.string ⟨s.toArray⟩)/\Hid (Below w.heap.size w w')
theorem Qrq (p:Value) (root:Bool) (up:Nat) (l:List (List UInt8)) (w:World) (hp:PathV w p root up l) (hup:up<=32) (hl:l.length<=255) (hx:∀ x∈l,1<=x.length/\x.length<=4) :
  Calls Tryz.prog 92 #[p] w (Qw0 w (Qbg root up l)):=by
 obtain ⟨v,rfl,hs⟩:=hp;have HB:Hid (∀ wx,wx=w.alloc (.cells #[.bool root,.int .i64 up,v] 128)->BoxAt w wx root up v l):=Za (by rintro _ rfl;exact BoxAt.start hs);obtain ⟨a,cap,rfl,_,_⟩:=hs;go_enter Tryz.func92,Tryz.ntmps92;go_upto_if 8 with fail;go_cut [3] (fun s wx=>s = .string ⟨(Qbv root).toArray⟩/\Hid (BoxAt w wx root up (.slice a l.length cap) l))
 case first =>
  cases root
  ·go_wp2_with fail;go_meet;exact ⟨rfl,Za (HB.out _ rfl)⟩
  ·go_wp2_with fail;go_meet;exact ⟨rfl,Za (HB.out _ rfl)⟩
 case rest =>
  obtain ⟨rfl,HX⟩:=hcut;obtain ⟨w1,rfl⟩:∃ x:World,x=wc:=⟨_,rfl⟩;clear HB;have hhl:(Qbv root).length<=1:=by cases root<;>decide
  have HE:Hid (Qbg root up l=Qbv root++List.replicate up 94++Qav l.length++l.flatMap Qci):=Za rfl;generalize Qbv root=hd at *;obtain ⟨p0,p1,p2⟩:=Qa4 HX.out.1;go_upto_block 0 with fail;go_cut [3] (fun s wx=>∃ x:List UInt8,s = .string ⟨x.toArray⟩/\x.length<=40/\Hid (x=hd++List.replicate up 94)/\w1=wx)
  case first =>
   go_wp2_with fail;go_loop [3,4] (fun s i=>∃ (k:Nat) (x:List UInt8),i = .int .i64 k/\k<=up/\s = .string ⟨x.toArray⟩/\x.length<=k+1/\Hid (x=hd++List.replicate k 94)) (fun _ i=>up-(intOf i).toNat)
   case atStart=>exact ⟨0,hd,rfl,Nat.zero_le _,rfl,by omega,Za (by simp)⟩
   case round =>
    obtain ⟨k,x,rfl,hk,rfl,hxl,HXX⟩:=hrel;by_cases hlt:k<up
    ·have hlt':(k:Int)<up:=by omega
     go_wp2_with fail;go_round
     case rel=>exact ⟨k+1,x++[94],by go_num,by omega,rfl,by simp;omega,Za (by rw [QsU,<- HXX.out])⟩
     case measure=>simp [intOf];omega
    ·have hlt':¬ (k:Int)<up:=by omega
     obtain rfl:k=up:=by omega
     go_wp2_with fail;go_meet;exact ⟨x,rfl,by omega,HXX,rfl⟩
  case rest =>
   obtain ⟨x,rfl,hxl,HXX,rfl⟩:=hcut;clear hhl;go_upto_block 2 with fail;go_cut [3] (fun s wx=>∃ y:List UInt8,s = .string ⟨y.toArray⟩/\y.length<=60/\Hid (y=hd++List.replicate up 94++Qav l.length)/\Hid (BoxAt w wx root up (.slice a l.length cap) l))
   case first =>
    by_cases h0:l.length=0
    ·have h0':((l.length:Int)==0)=true:=by rw [beq_iff_eq];omega
     have HC:Hid (Qav l.length=[0]):=Za (if_pos h0);clear h0;go_wp2_with fail;go_meet;exact ⟨x++[0],rfl,by simp;omega,Za (by rw [HC.out,<- HXX.out]),HX⟩
    ·have h0':((l.length:Int)==0)=false:=by rw [beq_eq_false_iff_ne];omega
     by_cases h2:l.length=2
     ·have h2':((l.length:Int)==2)=true:=by rw [beq_iff_eq];omega
      have HC:Hid (Qav l.length=[46]):=Za (by rw [Qav,if_neg h0,if_pos h2]);clear h0 h2;go_wp2_with fail;go_meet;exact ⟨x++[46],rfl,by simp;omega,Za (by rw [HC.out,<- HXX.out]),HX⟩
     ·have h2':((l.length:Int)==2)=false:=by rw [beq_eq_false_iff_ne];omega
      by_cases h3:2<l.length
      ·have h3':(2:Int)<l.length:=by omega
       have HC:Hid (Qav l.length=47::Qaz l.length 1):=Za (by rw [Qav,if_neg h0,if_neg h2,if_pos h3]);clear h0 h2;go_wp2_with fail;((with_reducible refine (QcF (l.length:Int) 1 _ (by omega) (by omega) (by omega)).mono ?_));rintro e w2 ⟨y,HY,hyl,rfl,hb2⟩;go_wp2_with fail;go_meet;exact ⟨x++(47::y),by simp,by simp;omega,Za (by rw [HC.out,<- HXX.out,HY.out]<;>rfl),Za (HX.out.below hb2)⟩
      ·have h3':¬ (2:Int)<l.length:=by omega
       have HC:Hid (Qav l.length=[]):=Za (by rw [Qav,if_neg h0,if_neg h2,if_neg h3]);clear h0 h2;go_wp2_with fail;go_meet;exact ⟨x,rfl,by omega,Za (by rw [HC.out,List.append_nil];exact HXX.out),HX⟩
   case rest =>
    obtain ⟨y,rfl,hyl,HY,HX2⟩:=hcut;obtain ⟨w2,rfl⟩:∃ x:World,x=wc:=⟨_,rfl⟩;clear HX HXX p0 p1 p2 hxl;have HXM:=Za hx;clear hx;go_wp2_with fail;go_loopw [3,6] (fun s i wr=>∃ (k:Nat) (z:List UInt8),i = .int .i64 k/\k<=l.length/\s = .string ⟨z.toArray⟩/\z.length<=60+4 * k/\Hid (z=y++(l.take k).flatMap Qci)/\Hid (BoxAt w wr root up (.slice a l.length cap) l)) (fun _ i _=>l.length-(intOf i).toNat)
    case atStart=>exact ⟨0,y,rfl,Nat.zero_le _,rfl,by omega,Za (by simp),HX2⟩
    case round =>
     obtain ⟨k,z,rfl,hk,rfl,hzl,HZ,HX⟩:=hrel;clear HX2;obtain ⟨p0,p1,p2⟩:=Qa4 HX.out.1;by_cases hlt:k<l.length
     ·obtain ⟨b,off,rfl,hcell⟩:∃ b off,a=some ⟨b,off,none⟩/\wr.cell? ⟨b,off+k,none⟩=some (.string ⟨l[k].toArray⟩):=by
       obtain ⟨a',cap',he,_,_,hc⟩:=HX.out.2.1;cases he;have hne:l≠[]:=by rintro rfl;simp at hlt
       obtain ⟨b,off,rfl,hcc⟩:=hc hne;exact ⟨b,off,rfl,hcc k hlt⟩
      have hxl:=HXM.out _ (List.getElem_mem hlt);have HF:=Za (Qmg l k hlt);have hlt':(k:Int)<l.length:=by omega
      generalize l[k]=x at *;go_wp2_with fail;have hw1:IntKind.i64.wrap (4-(x.length:Int))=4-(x.length:Int):=IntWalk.i64_in _ (by omega);have hw2:(4-(x.length:Int)).toNat=4-x.length:=by omega
      have hw3:(0:Int)<=4-(x.length:Int):=by omega
      have hw4:4-(x.length:Int)<=3:=by omega
      go_quiet (fail);clear hw1 hw2;go_wp2_with fail;go_roundw
      case rel=>exact ⟨k+1,z++(x++List.take (4-x.length) [0,0,0]),by go_num,by omega,rfl,by simp;omega,Za (by rw [HF.out,HZ.out,List.append_assoc]<;>rfl),Za (HX.out.drewN _)⟩
      case measure=>simp [intOf];omega
     ·have hlt':¬ (k:Int)<l.length:=by omega
      have HFin:Hid (z=Qbg root up l):=Za (by rw [HE.out,HZ.out,HY.out,List.take_of_length_le (by omega)]);go_wp2_with fail;go_ret;exact ⟨z,HFin,by omega,rfl,Za HX.out.2.2⟩
end
section
open Go.RowKit
attribute [local go_sem] Qc2 Qdd ByteArray.mk_append_mk QcO QcP Qir
def Qg8 (root:Bool) (up:Int) (l:List (List UInt8)):List UInt8:=if QaD root up l=true then Qbg root up.toNat l else []
def AAt (w wr:World) (root:Bool) (up:Int) (v:Value) (l:List (List UInt8)) (b:Nat) (x:List UInt8):Prop:=BoxAt w wr root up v l/\Bld wr b b x/\w.heap.size+1<=b
theorem AAt.write {w wr w2:World} {root:Bool} {up:Int} {v:Value} {l:List (List UInt8)} {b:Nat} {x y:List UInt8} (h:AAt w wr root up v l b x) (h1:Bld w2 b b y) (h2:Below b wr w2) (hv:∀ a n c,v = .slice (some a) n c->l≠[]->a.block<b):AAt w w2 root up v l b y :=
 ⟨⟨(h2.block _ (by have:=h.2.2;omega)).trans h.1.1,h.1.2.1.below' h2 hv,h.1.2.2.trans (h2.mono (by have:=h.2.2;omega))⟩,h1,h.2.2⟩
theorem AAt.below {w wr w2:World} {root:Bool} {up:Int} {v:Value} {l:List (List UInt8)} {b:Nat} {x:List UInt8} (h:AAt w wr root up v l b x) (h2:Below wr.heap.size wr w2):AAt w w2 root up v l b x :=
 ⟨h.1.below h2,h.2.1.below h2,h.2.2⟩
theorem AAt.bld {w wr:World} {root:Bool} {up:Int} {v:Value} {l:List (List UInt8)} {b:Nat} {x:List UInt8} (h:AAt w wr root up v l b x):Bld wr b b x:=h.2.1
theorem Qfl (B b:Nat) (l:List UInt8) (c:Int) (x:UInt8) (hc:c=x.toNat) (w:World) (h:Bld w B b l) (hlen:l.length+1<=140737488355328) :
  Calls Tryz.prog 37 #[.pointer (some ⟨b,0,none⟩),.int .u8 c] w fun e w'=>e = .returned .nilIface/\Bld w' B b (l++[x])/\Below B w w':=by
 subst hc;exact QsJ B b l x w h hlen
theorem QsV (l:List (List UInt8)) (k:Nat) (h:k<l.length) (hs:l[k].length<=4) (h1:1<=l[k].length):(l.take (k+1)).flatMap Qci=(l.take k).flatMap Qci++(l[k]++List.replicate (4-l[k].length) 0):=by
 rw [Qmg l k h];unfold Qci
 congr 2
 generalize l[k].length=n at *
 match n,hs,h1 with
 | 1,_,_=>rfl
 | 2,_,_=>rfl
 | 3,_,_=>rfl
 | 4,_,_=>rfl
theorem Qrr (bb:List UInt8) (p:Value) (root:Bool) (up:Int) (l:List (List UInt8)) (w:World) (hp:PathV w p root up l) (hx:∀ x∈l,x.length<=9223372036854775000) (hbb:bb.length<=140737488351232) :
  Calls Tryz.prog 130 #[.string ⟨bb.toArray⟩,p] w fun e w'=>e = .returned (.string ⟨(bb++Qg8 root up l).toArray⟩)/\Below w.heap.size w w':=by
 obtain ⟨v,rfl,hs⟩:=hp;have hvlt:=hs.lt;have HX0:Hid (BoxAt w (w.alloc (.cells #[.bool root,.int .i64 up,v] 128)) root up v l):=Za (BoxAt.start hs);obtain ⟨a,cap,rfl,hl,hdrop⟩:=hs;clear hdrop;have HVL:=Za hvlt;clear hvlt;obtain ⟨p0,p1,p2⟩:=HX0.out.cells;by_cases hval:QaD root up l=true
 ·have HA:Hid (Qg8 root up l=Qbg root up.toNat l):=Za (if_pos hval);have hpre:QfU root up l.length=true:=by unfold QaD at hval;simp at hval;exact hval.1
  have hall:∀ x∈l,Qa2 x=true:=by unfold QaD at hval;simp at hval;exact hval.2
  unfold QfU at hpre;obtain ⟨hu0,hu1,hrt,hln,hdis⟩:=of_decide_eq_true hpre;clear hrt hdis;have hlen:l.length<=32:=by omega
  have HSZ:Hid (∀ x∈l,1<=x.length/\x.length<=4):=Za (fun x hx=>QbG (hall x hx));obtain ⟨u,rfl⟩:=Int.eq_ofNat_of_zero_le hu0;rw [Int.toNat_natCast] at HA;clear hpre hall;have HV:=Za hval;clear hval;go_enter Tryz.func130,Tryz.ntmps130;go_wp2_with fail;((with_reducible refine (QdD _ root _ l _ HX0.out.pathV hx).mono ?_));rintro e w1 ⟨rfl,hb1⟩;rw [HV.out];have HX1:Hid (BoxAt w w1 root u (.slice a l.length cap) l):=Za (HX0.out.below hb1);have hz1:w.heap.size+1<=w1.heap.size:=by have:=hb1.size;simpa using this
  clear HX0 hb1 p0 p1 p2;have HB0:Hid (Bld (w1.alloc (.cells #[.pointer none,.slice none 0 0] 71)) w1.heap.size w1.heap.size []):=Za (Bld.fresh w1);go_wp2_with fail;((with_reducible refine (Qj2 w1.heap.size w1.heap.size [] bb _ HB0.out (by simp;omega)).mono ?_));rintro e w2 ⟨rfl,hbl,hbw⟩;obtain ⟨b,hbq⟩:∃ b,w1.heap.size=b:=⟨_,rfl⟩;have HVB:Hid (∀ a' n c,(Value.slice a l.length cap) = .slice (some a') n c->l≠[]->a'.block<b):=Za (fun a' n c h1 h2=>by have:=HVL.out a' n c h1 h2;omega);have HA2:Hid (AAt w w2 root u (.slice a l.length cap) l b bb):=Za (AAt.write (x:=[]) ⟨HX1.out.below (Zb.alloc Zc _),hbq▸HB0.out,by omega⟩ (by rw [<- hbq];exact hbl) (by rw [<- hbq];exact hbw) HVB.out);rw [hbq];clear hbl hbw HB0 HX1 hz1 hbq HVL;obtain ⟨p0,p1,p2⟩:=HA2.out.1.cells;go_upto_if 16 with fail;go_cut [] (fun wx=>∃ x:List UInt8,x.length<=bb.length+1/\Hid (x=bb++Qbv root)/\Hid (AAt w wx root u (.slice a l.length cap) l b x))
  case first =>
   cases root
   ·go_wp2_with fail;go_meet;exact ⟨bb,by omega,Za (by simp [Qbv]),HA2⟩
   ·go_wp2_with fail;((with_reducible refine (Qfl b b bb 92 92 rfl _ HA2.out.bld (by omega)).mono ?_));rintro e w3 ⟨rfl,hbl,hbw⟩;have HA3:Hid (AAt w w3 true u (.slice a l.length cap) l b (bb++[92])):=Za (HA2.out.write hbl hbw HVB.out);clear hbl hbw;go_wp2_with fail;go_meet;exact ⟨bb++[92],by simp,Za rfl,HA3⟩
  case rest =>
   obtain ⟨x,hxl,HXE,HA3⟩:=hcut;obtain ⟨w3,rfl⟩:∃ x:World,x=wc:=⟨_,rfl⟩;clear p0 p1 p2 HA2;obtain ⟨p0,p1,p2⟩:=HA3.out.1.cells;go_wp2_with fail;((with_reducible refine (Qks 94 u _ (by omega)).mono ?_));rintro e w4 ⟨y,HY,hyl,rfl,hb4⟩;have HYL:=Za hyl;have hyl2:y.length<=32:=by omega
   have HA4:Hid (AAt w w4 root u (.slice a l.length cap) l b x):=Za (HA3.out.below hb4);clear hb4 HA3 p0 p1 p2 hyl;go_wp2_with fail;((with_reducible refine (Qj2 b b x y _ HA4.out.bld (by omega)).mono ?_));rintro e w5 ⟨rfl,hbl,hbw⟩;have HA5:Hid (AAt w w5 root u (.slice a l.length cap) l b (x++y)):=Za (HA4.out.write hbl hbw HVB.out);have HXY:Hid (x++y=bb++(Qbv root++List.replicate u 94)):=Za (by rw [HXE.out,HY.out,List.append_assoc]);have hxy:(x++y).length<=bb.length+33:=by rw [List.length_append];omega
   clear hbl hbw HA4 HXE HY HYL hxl hyl2;generalize x++y=z at *;obtain ⟨p0,p1,p2⟩:=HA5.out.1.cells;go_upto_block 0 with fail;go_cut [] (fun wx=>∃ x:List UInt8,x.length<=bb.length+35/\Hid (x=bb++(Qbv root++List.replicate u 94++Qav l.length))/\Hid (AAt w wx root u (.slice a l.length cap) l b x))
   case first =>
    by_cases h0:l.length=0
    ·have h0':((l.length:Int)==0)=true:=by rw [beq_iff_eq];omega
     have HC:Hid (Qav l.length=[0]):=Za (if_pos h0);clear h0;go_wp2_with fail;((with_reducible refine (Qfl b b z 0 0 rfl _ HA5.out.bld (by omega)).mono ?_));rintro e w6 ⟨rfl,hbl,hbw⟩;have HA6:=Za (HA5.out.write hbl hbw HVB.out);clear hbl hbw;go_wp2_with fail;go_meet;exact ⟨z++[0],by simp;omega,Za (by rw [HC.out,HXY.out];simp),HA6⟩
    ·have h0':((l.length:Int)==0)=false:=by rw [beq_eq_false_iff_ne];omega
     by_cases h1:l.length=1
     ·have h1':((l.length:Int)==1)=true:=by rw [beq_iff_eq];omega
      have HC:Hid (Qav l.length=[]):=Za (by rw [h1]<;>rfl);clear h0 h1;go_wp2_with fail;go_meet;exact ⟨z,by omega,Za (by rw [HC.out,List.append_nil];exact HXY.out),HA5⟩
     ·have h1':((l.length:Int)==1)=false:=by rw [beq_eq_false_iff_ne];omega
      by_cases h2:l.length=2
      ·have h2':((l.length:Int)==2)=true:=by rw [beq_iff_eq];omega
       have HC:Hid (Qav l.length=[46]):=Za (by rw [Qav,if_neg h0,if_pos h2]);clear h0 h1 h2;go_wp2_with fail;((with_reducible refine (Qfl b b z 46 46 rfl _ HA5.out.bld (by omega)).mono ?_));rintro e w6 ⟨rfl,hbl,hbw⟩;have HA6:=Za (HA5.out.write hbl hbw HVB.out);clear hbl hbw;go_wp2_with fail;go_meet;exact ⟨z++[46],by simp;omega,Za (by rw [HC.out,HXY.out];simp),HA6⟩
      ·have h2':((l.length:Int)==2)=false:=by rw [beq_eq_false_iff_ne];omega
       have HC:Hid (Qav l.length=[47,UInt8.ofNat l.length]):=Za (by rw [Qav,if_neg h0,if_neg h2,if_pos (by omega)];show 47::[UInt8.ofNat (l.length % 256)]=_;rw [Nat.mod_eq_of_lt (by omega)]);have hto:((l.length:Int))=(UInt8.ofNat l.length).toNat:=by rw [UInt8.toNat_ofNat'];omega
       have HTO:=Za hto;clear h0 h1 h2 hto;go_wp2_with fail;((with_reducible refine (Qfl b b z 47 47 rfl _ HA5.out.bld (by omega)).mono ?_));rintro e w6 ⟨rfl,hbl,hbw⟩;have HA6:=Za (HA5.out.write hbl hbw HVB.out);clear hbl hbw;go_wp2_with fail;((with_reducible refine (Qfl b b (z++[47]) _ (UInt8.ofNat l.length) HTO.out _ HA6.out.bld (by rw [List.length_append,List.length_singleton];omega)).mono ?_));rintro e w7 ⟨rfl,hbl,hbw⟩;have HA7:=Za (HA6.out.write hbl hbw HVB.out);clear hbl hbw;go_wp2_with fail;go_meet;exact ⟨z++[47]++[UInt8.ofNat l.length],by simp;omega,Za (by rw [HC.out,HXY.out];simp),HA7⟩
   case rest =>
    obtain ⟨x,hxl,HXE,HA6⟩:=hcut;obtain ⟨w6,rfl⟩:∃ x:World,x=wc:=⟨_,rfl⟩;clear p0 p1 p2 HA5 HXY hxy;obtain ⟨p0,p1,p2⟩:=HA6.out.1.cells;have HXS:=Za hx;clear hx;go_wp2_with fail;go_loopw [41] (fun i wr=>∃ (k:Nat) (z:List UInt8),i = .int .i64 k/\k<=l.length/\z.length<=bb.length+35+4 * k/\Hid (z=x++(l.take k).flatMap Qci)/\Hid (AAt w wr root u (.slice a l.length cap) l b z)) (fun i _=>l.length-(intOf i).toNat)
    case atStart=>exact ⟨0,x,rfl,Nat.zero_le _,by omega,Za (by simp),HA6⟩
    case round =>
     obtain ⟨k,z,rfl,hk,hzl,HZ,HA7⟩:=hrel;clear HA6 p0 p1 p2;obtain ⟨p0,p1,p2⟩:=HA7.out.1.cells;by_cases hlt:k<l.length
     ·obtain ⟨b0,off,rfl,hcell⟩:=Qj1 HA7.out.1.2.1 k hlt;obtain ⟨hs1,hs4⟩:=HSZ.out _ (List.getElem_mem hlt);have HF:=Za (QsV l k hlt hs4 hs1);have hlt':(k:Int)<l.length:=by omega
      generalize l[k]=y at *;go_wp2_with fail;((with_reducible refine (Qj2 b b z y _ HA7.out.bld (by omega)).mono ?_));rintro e w8 ⟨rfl,hbl,hbw⟩;have HA8:=Za (HA7.out.write hbl hbw HVB.out);clear hbl hbw hcell p0 p1 p2;have h4y:4-(y.length:Int)=((4-y.length:Nat):Int):=by omega
      have H4Y:=Za h4y;clear h4y;go_wp2_with fail;rw [H4Y.out];((with_reducible refine (Qks 0 (4-y.length) _ (by omega)).mono ?_));rintro e w9 ⟨t,HT,htl,rfl,hb9⟩;have htl3:t.length<=3:=by omega
      have htl2:y.length+t.length<=4:=by omega
      have HA9:=Za (HA8.out.below hb9);clear hb9 htl;go_wp2_with fail;((with_reducible refine (Qj2 b b (z++y) t _ HA9.out.bld (by rw [List.length_append];omega)).mono ?_));rintro e w10 ⟨rfl,hbl,hbw⟩;have HA10:=Za (HA9.out.write hbl hbw HVB.out);clear hbl hbw;go_wp2_with fail;go_roundw
      case rel=>exact ⟨k+1,z++y++t,by go_num,by omega,by rw [List.length_append,List.length_append];omega,Za (by rw [HF.out,HZ.out,HT.out];simp),HA10⟩
      case measure=>simp [intOf];omega
     ·have hlt':¬ (k:Int)<l.length:=by omega
      have HFin:Hid (z=bb++Qg8 root u l):=Za (by rw [HA.out,HZ.out,HXE.out,List.take_of_length_le (by omega),Qbg];simp);go_wp2_with fail;((with_reducible refine (Qpj b b z _ HA7.out.bld).mono ?_));rintro e w8 ⟨rfl,hbw⟩;go_wp2_with fail;go_ret;exact ⟨by rw [<- HFin.out];rfl,HA7.out.1.2.2.trans (hbw.mono (by have:=HA7.out.2.2;omega))⟩
 ·have hval':QaD root up l=false:=by simpa using hval
  have HA:Hid (Qg8 root up l=[]):=Za (if_neg hval);have HV:=Za hval';clear hval hval';go_enter Tryz.func130,Tryz.ntmps130;go_wp2_with fail;((with_reducible refine (QdD _ root _ l _ HX0.out.pathV hx).mono ?_));rintro e w1 ⟨rfl,hb1⟩;rw [HV.out];have HX1:Hid (BoxAt w w1 root up (.slice a l.length cap) l):=Za (HX0.out.below hb1);clear HX0 hb1;go_wp2_with fail;go_ret;exact ⟨by rw [HA.out,List.append_nil];rfl,HX1.out.2.2⟩
end
end Go.Proofs.YtoohondkpddmcaaGreatDoor
