/- Fstrs Fseg Fcnt Fpaa Fpath -/
import Derived.Test.YtoohondkpddmcaaGreatDoorYzz
import Derived.Test.YtoohondkpddmcaaGreatDoorYan
import Derived.Test.YtoohondkpddmcaaGreatDoorYah
import Derived.Deep.AppendLies
import Derived.Deep.CutBlock
import Derived.Deep.DeepCutAuto
import Derived.OneCell
import Derived.WalkSmall
namespace Go.Proofs.YtoohondkpddmcaaGreatDoor
set_option maxHeartbeats 32000000
set_option linter.unusedVariables false
set_option linter.unusedSimpArgs false
section
open Go.RowKit
attribute [local go_sem] QcV Qc6 ByteArray.mk_append_mk QcE QcF
def Qbl:List UInt8->List UInt8×Nat×Nat
 | []=>([],0,4)
 | [c]=>if c.toNat=13 then ([],0,4) else ([],0,3)
 | c::d::r=>if c.toNat=13 then (if r.length<d.toNat then ([],0,4) else (r.take d.toNat,2+d.toNat,0)) else ([],0,3)
def QsQ (x:List UInt8×Nat×Nat):Value:=.tuple #[.string ⟨x.1.toArray⟩,.int .i64 x.2.1,.int .i64 x.2.2]
theorem Qox {x:List UInt8×Nat×Nat} {l:List UInt8} {b c:Int} (h:x=(l,b.toNat,c.toNat)) (hb:0<=b) (hc:0<=c):Ending.returned (.tuple #[.string ⟨l.toArray⟩,.int .i64 b,.int .i64 c]) = .returned (QsQ x):=by
 subst h;simp only [QsQ,Int.toNat_of_nonneg hb,Int.toNat_of_nonneg hc]
theorem Qkz (c:UInt8) (r:List UInt8) (h:((c.toNat:Int) != 13)=true):Qbl (c::r)=([],0,3):=by
 have h':¬ c.toNat=13:=by simp only [bne_iff_ne,ne_eq] at h;omega
 cases r<;>rw [Qbl,if_neg h']
theorem Qh2 (d:UInt8) (r:List UInt8) (h:(r.length:Int)<d.toNat):Qbl (13::d::r)=([],0,4):=by
 rw [Qbl,if_pos (by decide),if_pos (by omega)]
theorem Qi5 (d:UInt8) (r:List UInt8) (h:¬ (r.length:Int)<d.toNat):Qbl (13::d::r)=(r.take d.toNat,2+d.toNat,0):=by
 rw [Qbl,if_pos (by decide),if_neg (by omega)]
theorem Qnv (s:List UInt8) (w:World) (hm:s.length<=9223372036854775000) :
  Calls Tryz.prog 108 #[.string ⟨s.toArray⟩] w fun e w'=>e = .returned (QsQ (Qbl s))/\w=w':=by
 match s,hm with
 | [],hm =>
   go_enter Tryz.func108,Tryz.ntmps108;go_wp2_with fail;go_ret3;exact ⟨rfl,rfl⟩
 | c::r,hm =>
   simp only [List.length_cons] at hm;by_cases hc:c=13
   ·subst hc;cases r with
    | nil =>
      go_enter Tryz.func108,Tryz.ntmps108;go_wp2_with fail;go_ret3;exact ⟨rfl,rfl⟩
    | cons d r =>
      simp only [List.length_cons] at hm;have hd:=d.toNat_lt;by_cases hr:(r.length:Int)<d.toNat
      ·have HO:=Za (Qh2 d r hr);go_enter Tryz.func108,Tryz.ntmps108;go_wp2_with fail;go_ret3;exact ⟨by rw [HO.out];rfl,rfl⟩
      ·have HO:=Za (Qi5 d r hr);go_enter Tryz.func108,Tryz.ntmps108;go_wp2_with fail;go_ret3;exact ⟨by rw [HO.out];exact Qox (by simp only [Prod.mk.injEq,true_and];omega) (by omega) (by omega),rfl⟩
   ·have hc':((c.toNat:Int) != 13)=true:=by
     simp only [bne_iff_ne,ne_eq];intro h;apply hc;apply UInt8.toNat_inj.1;simpa using (by omega:c.toNat=13)
    have HO:=Za (Qkz c r hc');go_enter Tryz.func108,Tryz.ntmps108;go_wp2_with fail;go_ret3;exact ⟨by rw [HO.out];rfl,rfl⟩
theorem Qi6 (s:List UInt8) (w:World) (hm:s.length<=9223372036854775000) :
  Calls Tryz.prog 161 #[.string ⟨s.toArray⟩] w fun e w'=>e = .returned (QsQ (Qbl s))/\Below w.heap.size w w':=by
 match s,hm with
 | [],hm =>
   go_enter Tryz.func161,Tryz.ntmps161;go_wp2_with fail;go_ret3;exact ⟨rfl,Zb⟩
 | c::r,hm =>
   simp only [List.length_cons] at hm;by_cases hc:c=13
   ·subst hc;cases r with
    | nil =>
      go_enter Tryz.func161,Tryz.ntmps161;go_wp2_with fail;go_ret3;exact ⟨rfl,Zb⟩
    | cons d r =>
      simp only [List.length_cons] at hm;have hd:=d.toNat_lt;by_cases hr:(r.length:Int)<d.toNat
      ·have HO:=Za (Qh2 d r hr);go_enter Tryz.func161,Tryz.ntmps161;go_wp2_with fail;go_ret3;exact ⟨by rw [HO.out];rfl,Zb⟩
      ·have HO:=Za (Qi5 d r hr);go_enter Tryz.func161,Tryz.ntmps161;go_wp2_with fail;refine Qau (by kernel_rfl) (by kernel_rfl) ?_
       repeat (go_big_quiet_step (fail))
       refine wpQuiet_nil ?_;intro w1 hg;go_wp2_with fail;go_ret3;exact ⟨by rw [HO.out];exact Qox (by rw [show 2+d.toNat-2=d.toNat by omega,show (2+(d.toNat:Int)).toNat=2+d.toNat by omega]<;>rfl) (by omega) (by omega),hg⟩
   ·have hc':((c.toNat:Int) != 13)=true:=by
     simp only [bne_iff_ne,ne_eq];intro h;apply hc;apply UInt8.toNat_inj.1;simpa using (by omega:c.toNat=13)
    have HO:=Za (Qkz c r hc');go_enter Tryz.func161,Tryz.ntmps161;go_wp2_with fail;go_ret3;exact ⟨by rw [HO.out];rfl,Zb⟩
def Qdy (v:List UInt8):List UInt8:=13::UInt8.ofNat v.length::v
theorem Qhu (b v:List UInt8) (w:World) (hb:b.length<=140737488355328) (hv:v.length<=255) :
  Calls Tryz.prog 83 #[.string ⟨b.toArray⟩,.string ⟨v.toArray⟩] w fun e w'=>e = .returned (.string ⟨(b++Qdy v).toArray⟩)/\Below w.heap.size w w':=by
 go_enter Tryz.func83,Tryz.ntmps83;go_wp2_with fail;go_ret;exact ⟨rfl,Zb.alloc Zc _⟩
theorem Qkb (v:List UInt8) (w:World) (hv:v.length<=255) :
  Calls Tryz.prog 90 #[.string ⟨v.toArray⟩] w fun e w'=>e = .returned (.string ⟨(Qdy v).toArray⟩)/\Below w.heap.size w w':=by
 go_enter Tryz.func90,Tryz.ntmps90;go_wp2_with fail;refine (Qct _ _ _ (by omega) (by omega) (by omega)).mono ?_;rintro e w1 ⟨l,HL,hl,rfl,hb⟩;go_wp2_with fail;go_ret;have e:l=[UInt8.ofNat v.length]:=by rw [HL.out,Int.toNat_natCast,show Int.toNat 1=1 from rfl,Qd0]
 exact ⟨by rw [e];rfl,hb⟩
end
section
open Go.RowKit
attribute [local go_sem] QcV Qc6 ByteArray.mk_append_mk QcE QcF
def QgX (c i:Nat):Bool:=decide ((65<=c/\c<=90)\/c=95\/((48<=c/\c<=57)/\0<i))
def Qbw (c i n:Nat):Option Nat:=if c=0/\0<i then some n else if n<i then none else if QgX c i=true then some (i+1) else none
def QbX (s:List UInt8):Nat->Nat->Nat->List UInt8×Nat
 | 0,_,n=>(s.take n,0)
 | f+1,i,n=>match s[i]? with
   | none=>([],4)
   | some c=>match Qbw c.toNat i n with
     | none=>([],3)
     | some m=>QbX s f (i+1) m
def Qb5 (s:List UInt8):List UInt8×Nat:=QbX s 4 0 0
def Qq6 (x:List UInt8×Nat):Value:=.tuple #[.string ⟨x.1.toArray⟩,.int .i64 x.2]
theorem Qgl (s:List UInt8) (f i n:Nat) (h:s.length<=i):QbX s (f+1) i n=([],4):=by
 rw [QbX,List.getElem?_eq_none h]
theorem Qgm (s:List UInt8) (f i n:Nat) (h:i<s.length):QbX s (f+1) i n=match Qbw s[i].toNat i n with
  | none=>([],3)
  | some m=>QbX s f (i+1) m:=by
 rw [QbX,List.getElem?_eq_getElem h]
theorem QgY {c i n:Nat} (h:c=0) (h1:0<i):Qbw c i n=some n:=if_pos ⟨h,h1⟩
theorem Ql4 {c i n:Nat} (h:¬ (c=0/\0<i)) (h1:n<i):Qbw c i n=none:=by rw [Qbw,if_neg h,if_pos h1]
theorem Qi7 {c i n:Nat} (h:¬ (c=0/\0<i)) (h1:¬ n<i) (h2:(65<=c/\c<=90)\/c=95\/((48<=c/\c<=57)/\0<i)):Qbw c i n=some (i+1):=by rw [Qbw,if_neg h,if_neg h1,if_pos (by rw [QgX,decide_eq_true h2])]
theorem Ql5 {c i n:Nat} (h:¬ (c=0/\0<i)) (h1:¬ n<i) (h2:¬ ((65<=c/\c<=90)\/c=95\/((48<=c/\c<=57)/\0<i))):Qbw c i n=none:=by rw [Qbw,if_neg h,if_neg h1,if_neg (by rw [QgX,decide_eq_false h2];decide)]
theorem Ql6 (s:List UInt8) (w:World) (hm:s.length<=9223372036854775000) :
  Calls Tryz.prog 205 #[.string ⟨s.toArray⟩] w fun e w'=>e = .returned (Qq6 (Qb5 s))/\w=w':=by
 go_enter Tryz.func205,Tryz.ntmps205;go_wp2_with fail;go_loop [4,8] (fun n i=>∃ n0 i0:Nat,n = .int .i64 n0/\i = .int .i64 i0/\i0<=4/\n0<=i0/\n0<=s.length/\Qb5 s=QbX s (4-i0) i0 n0) (fun n i=>4-(intOf i).toNat)
 case atStart=>exact ⟨0,0,rfl,rfl,by omega,by omega,by omega,rfl⟩
 case round =>
  obtain ⟨n,i,rfl,rfl,hi,hn,hns,hr⟩:=hrel;have HR:=Za hr;clear hr;by_cases h4:i<4
  ·obtain ⟨f,hf⟩:∃ f,4-i=f+1:=⟨3-i,by omega⟩;by_cases hl:i<s.length
   ·have HR2:Hid (Qb5 s=match Qbw s[i].toNat i n with
     | none=>([],3)
     | some m=>QbX s (4-(i+1)) (i+1) m):=Za (by rw [HR.out,hf,Qgm s f i n hl,show 4-(i+1)=f by omega])
    clear HR hf;have hc:=s[i].toNat_lt;generalize hcc:s[i].toNat=c at *;have hl':¬ (s.length:Int)<=i:=by omega
    have hgi:s[i]?=some s[i]:=List.getElem?_eq_getElem hl;go_wp2_with fail
    all_goals first
     | (go_ret2
        first
         | exact ⟨by rw [HR2.out,Ql4 (by omega) (by omega)];rfl,rfl⟩
         | exact ⟨by rw [HR2.out,Ql5 (by omega) (by omega) (by omega)];rfl,rfl⟩)
     | (go_round
        case measure=>simp [intOf];omega
        case rel =>
         first
          | exact ⟨n,i+1,rfl,by go_num,by omega,by omega,by omega,by rw [HR2.out,QgY (by omega) (by omega)]⟩
          | (exfalso;rename_i hx;simp only [beq_iff_eq] at hx;omega)
          | (exfalso;rename_i hx;simp at hx;omega)
          | (rename_i hx;simp only [beq_iff_eq] at hx;exact ⟨i+1,i+1,by go_num,by go_num,by omega,by omega,by omega,by rw [HR2.out,Qi7 (by omega) (by omega) (by omega)]⟩)
          | exact ⟨i+1,i+1,by go_num,by go_num,by omega,by omega,by omega,by rw [HR2.out,Qi7 (by omega) (by omega) (by omega)]⟩)
   ·have HR2:Hid (Qb5 s=([],4)):=Za (by rw [HR.out,hf,Qgl s f i n (by omega)]);have hl':(s.length:Int)<=i:=by omega
    go_wp2_with fail;go_ret2;exact ⟨by rw [HR2.out];rfl,rfl⟩
  ·obtain rfl:i=4:=by omega
   go_wp2_with fail;go_ret2;refine ⟨by rw [HR.out];rfl,rfl⟩
end
section
open Go.RowKit
attribute [local go_sem] QcV Qc6 ByteArray.mk_append_mk QcE QcF
def QcG (most:Int):List UInt8->Int×Int×Int
 | []=>(0,0,4)
 | d::_=>if d.toNat<3 then (0,0,3) else if most<d.toNat then (0,0,3) else ((d.toNat:Int),2,0)
def Qa0 (s:List UInt8) (most:Int) (pre:Bool):Int×Int×Int:=match s with
 | []=>(0,0,4)
 | c::r =>
   if c.toNat=0 then (if pre=true then (0,1,0) else (0,0,3))
   else if c.toNat=46 then (if most<2 then (0,0,3) else (2,1,0))
   else if c.toNat=47 then (if most<3 then (0,0,3) else QcG most r)
   else if most<1 then (0,0,3) else (1,0,0)
theorem Qi8 (r:List UInt8) (most:Int) (pre:Bool) (h:¬ most<3):Qa0 (47::r) most pre=QcG most r:=by
 show (if most<3 then (0,0,3) else QcG most r)=_;rw [if_neg h]
theorem Qpy (r:List UInt8) (most:Int) (pre:Bool) (h:most<3):Qa0 (47::r) most pre=(0,0,3):=by
 show (if most<3 then (0,0,3) else QcG most r)=_;rw [if_pos h]
def QvJ (x:Int×Int×Int):Value:=.tuple #[.int .i64 x.1,.int .i64 x.2.1,.int .i64 x.2.2]
theorem Qh3 {c d:UInt8} (h:c.toNat=d.toNat):c=d:=UInt8.toNat.inj h
theorem Qhv (s:List UInt8) (most:Int) (pre:Bool) (w:World) (hm:s.length<=9223372036854775000) (h0:0<=most) (h255:most<=255) :
  Calls Tryz.prog 204 #[.string ⟨s.toArray⟩,.int .i64 most,.bool pre] w fun e w'=>e = .returned (QvJ (Qa0 s most pre))/\w=w':=by
 match s,hm with
 | [],_ =>
   go_enter Tryz.func204,Tryz.ntmps204;go_wp2_with fail;go_ret3;exact ⟨rfl,rfl⟩
 | c::r,hm =>
   by_cases c0:c=0
   ·subst c0;cases pre
    ·go_enter Tryz.func204,Tryz.ntmps204;go_wp2_with fail;go_ret3;exact ⟨rfl,rfl⟩
    ·go_enter Tryz.func204,Tryz.ntmps204;go_wp2_with fail;go_ret3;exact ⟨rfl,rfl⟩
   ·by_cases c46:c=46
    ·subst c46;have HR:Hid (Qa0 (46::r) most pre=if most<2 then (0,0,3) else (2,1,0)):=Za rfl;by_cases h2:most<2
     ·go_enter Tryz.func204,Tryz.ntmps204;go_wp2_with fail;go_ret3;exact ⟨by rw [HR.out,if_pos (by omega)];rfl,rfl⟩
     ·go_enter Tryz.func204,Tryz.ntmps204;go_wp2_with fail;go_ret3;exact ⟨by rw [HR.out,if_neg (by omega)];rfl,rfl⟩
    ·by_cases c47:c=47
     ·subst c47;by_cases h3:most<3
      ·have HR:Hid (Qa0 (47::r) most pre=(0,0,3)):=Za (Qpy _ _ _ h3);go_enter Tryz.func204,Tryz.ntmps204;go_wp2_with fail;go_ret3;exact ⟨by rw [HR.out];rfl,rfl⟩
      ·match r,hm with
       | [],hm =>
         have HR:Hid (Qa0 [47] most pre=(0,0,4)):=Za (Qi8 _ _ _ h3);go_enter Tryz.func204,Tryz.ntmps204;go_wp2_with fail;go_ret3;exact ⟨by rw [HR.out];rfl,rfl⟩
       | d::t,hm =>
         have HR:Hid (Qa0 (47::d::t) most pre=if d.toNat<3 then (0,0,3) else if most<d.toNat then (0,0,3) else ((d.toNat:Int),2,0)):=Za (Qi8 _ _ _ h3);have hd:=d.toNat_lt;by_cases hd3:d.toNat<3
         ·have hd3':(d.toNat:Int)<3:=by omega
          go_enter Tryz.func204,Tryz.ntmps204;go_wp2_with fail;go_ret3;exact ⟨by rw [HR.out,if_pos (by omega)];rfl,rfl⟩
         ·have hd3':¬ (d.toNat:Int)<3:=by omega
          by_cases hmo:most<d.toNat
          ·go_enter Tryz.func204,Tryz.ntmps204;go_wp2_with fail;go_ret3;exact ⟨by rw [HR.out,if_neg (by omega),if_pos (by omega)];rfl,rfl⟩
          ·go_enter Tryz.func204,Tryz.ntmps204;go_wp2_with fail;go_ret3;exact ⟨by rw [HR.out,if_neg (by omega),if_neg (by omega)];rfl,rfl⟩
     ·have n0:¬ c.toNat=0:=fun h=>c0 (Qh3 h);have n46:¬ c.toNat=46:=fun h=>c46 (Qh3 h);have n47:¬ c.toNat=47:=fun h=>c47 (Qh3 h);have e0:¬ (c.toNat:Int)=0:=by omega
      have e46:¬ (c.toNat:Int)=46:=by omega
      have e47:¬ (c.toNat:Int)=47:=by omega
      have HR:Hid (Qa0 (c::r) most pre=if most<1 then (0,0,3) else (1,0,0)):=Za (by rw [Qa0,if_neg n0,if_neg n46,if_neg n47]);by_cases h1:most<1
      ·go_enter Tryz.func204,Tryz.ntmps204;go_wp2_with fail;go_ret3;exact ⟨by rw [HR.out,if_pos (by omega)];rfl,rfl⟩
      ·go_enter Tryz.func204,Tryz.ntmps204;go_wp2_with fail;go_ret3;exact ⟨by rw [HR.out,if_neg (by omega)];rfl,rfl⟩
end
section
open Go.RowKit
attribute [local go_sem] QcV Qc6 ByteArray.mk_append_mk QcE QcF
theorem Qll (w:World):Calls Tryz.prog 114 #[.string ⟨([]:List UInt8).toArray⟩,.string ⟨#[92]⟩] w fun e w'=>e = .returned (.bool false)/\w=w':=by
 go_enter Tryz.func114,Tryz.ntmps114;go_wp2_with fail;go_ret;exact ⟨rfl,rfl⟩
theorem Qlm (r:List UInt8) (w:World) (hm:r.length<=9223372036854775000):Calls Tryz.prog 114 #[.string ⟨(92::r).toArray⟩,.string ⟨#[92]⟩] w fun e w'=>e = .returned (.bool true)/\w=w':=by
 have h1:¬ ((r.length:Int)+1<1):=by omega
 go_enter Tryz.func114,Tryz.ntmps114;go_wp2_with fail;go_ret;exact ⟨rfl,rfl⟩
theorem Ql7 (c:UInt8) (r:List UInt8) (w:World) (hc:c≠92) (hm:r.length<=9223372036854775000):Calls Tryz.prog 114 #[.string ⟨(c::r).toArray⟩,.string ⟨#[92]⟩] w fun e w'=>e = .returned (.bool false)/\w=w':=by
 have h1:¬ ((r.length:Int)+1<1):=by omega
 go_enter Tryz.func114,Tryz.ntmps114;go_wp2_with fail;go_ret;exact ⟨by rw [show (c==92)=false by simpa using hc];rfl,rfl⟩
def Qbh:List UInt8->Bool
 | []=>false
 | c::_=>c==92
theorem Qkc (s:List UInt8) (w:World) (hm:s.length<=9223372036854775000):Calls Tryz.prog 66 #[.string ⟨s.toArray⟩,.string ⟨#[92]⟩] w fun e w'=>e = .returned (.bool (Qbh s))/\w=w':=by
 match s,hm with
 | [],_ =>
   go_enter Tryz.func66,Tryz.ntmps66;go_wp2_with (go_at_call 114;refine (Qll _).mono ?_;rintro e w' ⟨rfl,rfl⟩);go_ret;exact ⟨rfl,rfl⟩
 | c::r,hm =>
   rw [List.length_cons] at hm;by_cases hc:c=92
   ·subst hc;go_enter Tryz.func66,Tryz.ntmps66;go_wp2_with (go_at_call 114;refine (Qlm r _ (by omega)).mono ?_;rintro e w' ⟨rfl,rfl⟩);go_ret;exact ⟨rfl,rfl⟩
   ·have HC:Hid (Qbh (c::r)=false):=Za (by rw [Qbh];simpa using hc);go_enter Tryz.func66,Tryz.ntmps66;go_wp2_with (go_at_call 114;refine (Ql7 c r _ hc (by omega)).mono ?_;rintro e w' ⟨rfl,rfl⟩);go_ret;exact ⟨by rw [HC.out];rfl,rfl⟩
def Qbo:List UInt8->Nat
 | []=>0
 | c::r=>if c.toNat=94 then Qbo r+1 else 0
theorem QkA (s:List UInt8):Qbo s<=s.length:=by
 induction s with
 | nil=>exact Nat.le_refl _
 | cons c r ih=>rw [Qbo,List.length_cons];split<;>omega
theorem Qi9 (s:List UInt8) (k:Nat) (h:k<s.length) (hc:s[k].toNat=94):k+Qbo (s.drop k)=(k+1)+Qbo (s.drop (k+1)):=by
 rw [List.drop_eq_getElem_cons h,Qbo,if_pos hc];omega
theorem QkB (s:List UInt8) (k:Nat) (h:k<s.length) (hc:¬ s[k].toNat=94):Qbo (s.drop k)=0:=by
 rw [List.drop_eq_getElem_cons h,Qbo,if_neg hc]
def Qbn (s:List UInt8):Nat->Nat->List (List UInt8)->List (List UInt8)×Nat×Nat
 | 0,pos,acc=>(acc,pos,0)
 | n+1,pos,acc=>if (Qb5 (s.drop pos)).2=0 then Qbn s n (pos+4) (acc++[(Qb5 (s.drop pos)).1]) else ([],0,(Qb5 (s.drop pos)).2)
structure PathR where
 root:Bool
 up:Nat
 segs:List (List UInt8)
 pos:Nat
 err:Nat
def Qbi (e:Nat):PathR:=⟨false,0,[],0,e⟩
def QaD (s:List UInt8) (root:Bool) (up pos:Nat):PathR :=
 if 32<up then Qbi 3 else
 let c:=Qa0 (s.drop pos) (32-up) (decide (0<pos))
 if c.2.2=0 then
  let g:=Qbn s c.1.toNat (pos+c.2.1.toNat) []
  if g.2.2=0 then ⟨root,up,g.1,g.2.1,0⟩ else Qbi g.2.2
 else Qbi c.2.2.toNat
def Qay (s:List UInt8):PathR:=if Qbh s=true then QaD s true 0 1 else QaD s false (Qbo s) (Qbo s)
def QgZ (w:World) (r:PathR) (e:Ending) (w':World):Prop :=
 ∃ v,e = .returned (.tuple #[.agg #[.bool r.root,.int .i64 r.up,v],.int .i64 r.pos,.int .i64 r.err])/\w'.ownsRow w.heap.size 9 1 v r.segs.length (r.segs.map QbT)/\Below w.heap.size w w'
theorem Qg0 (tmps:Array Value) (w:World) (b:Nat) (c0 c1 c2:Value) (h2:tmps.getD 2 undef = .pointer (some ⟨b,0,none⟩)) (hb:w.heap[b]?=some (.cells #[c0,c1,c2] 128 (0,0))) :
  (results Tryz.f152 tmps).run Tryz.prog w = .ok (.tuple #[.agg #[c0,c1,c2],tmps.getD 3 undef,tmps.getD 4 undef]) w:=by
 have e0:w.cell? ⟨b,0,none⟩=some c0:=(cell_of_row w _ 0 _ _ _ hb).trans rfl;have e1:w.cell? ⟨b,1,none⟩=some c1:=(cell_of_row w _ 1 _ _ _ hb).trans rfl;have e2:w.cell? ⟨b,2,none⟩=some c2:=(cell_of_row w _ 2 _ _ _ hb).trans rfl;have h2':tmps[2]?.getD undef = .pointer (some ⟨b,0,none⟩):=by rw [<- h2];simp
 simp [results];go_simp
end
section
open Go.RowKit
theorem Qg1 (s:List UInt8) (p:Nat):List.take (s.length-p) (List.drop p s)=List.drop p s:=by rw [<- List.length_drop,List.take_length]
attribute [local go_sem] QcV Qc6 ByteArray.mk_append_mk QcE QcF Qg1
def PathAt (w w1:World) (root:Bool) (up:Int) (v:Value):Prop :=
 w1.heap[w.heap.size]?=some (.cells #[.bool false,.int .i64 0,.slice none 0 0] 128 (0,0))/\w1.heap[w.heap.size+1]?=some (.cells #[.bool root,.int .i64 up,v] 128 (0,0))/\Below w.heap.size w w1
theorem PathAt.start (w:World):PathAt w ((w.alloc (.cells #[.bool false,.int .i64 0,.slice none 0 0] 128)).alloc (.cells #[.bool false,.int .i64 0,.slice none 0 0] 128)) false 0 (.slice none 0 0) :=
 ⟨heap_alloc2_old _ _ _,heap_alloc2_new _ _ _,(Zb.alloc Zc _).alloc (by simp) _⟩
theorem PathAt.root {w w1:World} {root:Bool} {up:Int} {v:Value} (h:PathAt w w1 root up v) (r:Bool):PathAt w (w1.setCell ⟨w.heap.size+1,0,none⟩ (.bool r)) r up v :=
 ⟨by rw [heap_setCell_other _ _ _ _ (by simp)];exact h.1,(heap_setCell_same _ _ 0 _ _ _ h.2.1).trans rfl,h.2.2.setCell (by simp) _⟩
theorem PathAt.up {w w1:World} {root:Bool} {up:Int} {v:Value} (h:PathAt w w1 root up v) (u:Int):PathAt w (w1.setCell ⟨w.heap.size+1,1,none⟩ (.int .i64 u)) root u v :=
 ⟨by rw [heap_setCell_other _ _ _ _ (by simp)];exact h.1,(heap_setCell_same _ _ 1 _ _ _ h.2.1).trans rfl,h.2.2.setCell (by simp) _⟩
theorem PathAt.cells {w w1:World} {root:Bool} {up:Int} {v:Value} (h:PathAt w w1 root up v):w1.cell? ⟨w.heap.size+1,0,none⟩=some (.bool root)/\w1.cell? ⟨w.heap.size+1,1,none⟩=some (.int .i64 up)/\w1.cell? ⟨w.heap.size+1,2,none⟩=some v :=
 ⟨(cell_of_row w1 _ 0 _ _ _ h.2.1).trans rfl,(cell_of_row w1 _ 1 _ _ _ h.2.1).trans rfl,(cell_of_row w1 _ 2 _ _ _ h.2.1).trans rfl⟩
theorem PathAt.free {w w1:World} {root:Bool} {up:Int} {v:Value} (h:PathAt w w1 root up v) (j:Nat):w1.frozen? ⟨w.heap.size+1,j,none⟩=false:=frozen_of_row _ _ _ _ _ h.2.1
theorem PathAt.res {w w1:World} {root:Bool} {up:Int} {v:Value} (h:PathAt w w1 root up v):w1.cell? ⟨w.heap.size,0,none⟩=some (.bool false)/\w1.cell? ⟨w.heap.size,1,none⟩=some (.int .i64 0)/\w1.cell? ⟨w.heap.size,2,none⟩=some (.slice none 0 0) :=
 ⟨(cell_of_row w1 _ 0 _ _ _ h.1).trans rfl,(cell_of_row w1 _ 1 _ _ _ h.1).trans rfl,(cell_of_row w1 _ 2 _ _ _ h.1).trans rfl⟩
theorem PathAt.resFree {w w1:World} {root:Bool} {up:Int} {v:Value} (h:PathAt w w1 root up v) (j:Nat):w1.frozen? ⟨w.heap.size,j,none⟩=false:=frozen_of_row _ _ _ _ _ h.1
theorem PathAt.drew {w w1:World} {root:Bool} {up:Int} {v:Value} (h:PathAt w w1 root up v):PathAt w w1.drew root up v:=⟨h.1,h.2.1,h.2.2.drew⟩
def Qln (s:List UInt8) (root:Bool):Nat:=if root=true then 0 else Qbo s
def Qfw (s:List UInt8) (root:Bool):Nat:=if root=true then 1 else Qbo s
theorem Ql8 (s:List UInt8):Qfw s (Qbh s)<=s.length:=by
 unfold Qfw
 match s with
 | []=>exact Nat.le_refl _
 | c::r =>
   split
   ·simp
   ·exact QkA _
theorem Qoy (s:List UInt8) (r:Bool):Qln s r<=Qfw s r:=by unfold Qln Qfw;split<;>omega
theorem Qhw (s:List UInt8):Qay s=QaD s (Qbh s) (Qln s (Qbh s)) (Qfw s (Qbh s)):=by
 unfold Qay Qln Qfw;cases Qbh s<;>rfl
theorem PathAt.seg {w w1:World} {root:Bool} {up:Int} {v:Value} (h:PathAt w w1 root up v) (u:Value):PathAt w (w1.setCell ⟨w.heap.size+1,2,none⟩ u) root up u :=
 ⟨by rw [heap_setCell_other _ _ _ _ (by simp)];exact h.1,(heap_setCell_same _ _ 2 _ _ _ h.2.1).trans rfl,h.2.2.setCell (by simp) _⟩
theorem PathAt.lt {w w1:World} {root:Bool} {up:Int} {v:Value} (h:PathAt w w1 root up v):w.heap.size+2<=w1.heap.size:=by
 have:=lt_of_block h.2.1;omega
theorem PathAt.alloc {w w1:World} {root:Bool} {up:Int} {v:Value} (h:PathAt w w1 root up v) (o:Obj):PathAt w (w1.alloc o) root up v:=by
 have hl:=h.lt;exact ⟨(Below.heap_alloc _ _ _ (by omega)).trans h.1,(Below.heap_alloc _ _ _ (by omega)).trans h.2.1,h.2.2.alloc (by omega) _⟩
theorem PathAt.grown {w w1 w2:World} {root:Bool} {up:Int} {v:Value} {row:Option Nat} (h:PathAt w w1 root up v) (hg:w1.grownBy w2 row) (hr:∀ k,row=some k->w.heap.size+2<=k):PathAt w w2 root up v:=by
 have hl:=h.lt;refine ⟨(hg.block _ (by omega) ?_).trans h.1,(hg.block _ (by omega) ?_).trans h.2.1,h.2.2.grown hg (by omega) (fun k hk=>by have:=hr k hk;omega)⟩
 ·intro e;have:=hr _ e.symm;omega
 ·intro e;have:=hr _ e.symm;omega
theorem PathAt.put {w w1:World} {root:Bool} {up:Int} {v:Value} (h:PathAt w w1 root up v) (a b c:Value) :
  (((w1.setCell ⟨w.heap.size,0,none⟩ a).setCell ⟨w.heap.size,1,none⟩ b).setCell ⟨w.heap.size,2,none⟩ c).heap[w.heap.size]?=some (.cells #[a,b,c] 128 (0,0))
  /\ Below w.heap.size w (((w1.setCell ⟨w.heap.size,0,none⟩ a).setCell ⟨w.heap.size,1,none⟩ b).setCell ⟨w.heap.size,2,none⟩ c):=by
 refine ⟨?_,((h.2.2.setCell (by simp) _).setCell (by simp) _).setCell (by simp) _⟩;have e0:=(heap_setCell_same w1 _ 0 _ _ a h.1);have e1:=(heap_setCell_same _ _ 1 _ _ b e0);exact (heap_setCell_same _ _ 2 _ _ c e1).trans rfl
theorem QsR {w w1:World} {v:Value} {n:Nat} {xs:List Value} (h:w1.ownsRow (w.heap.size+2) 9 1 v n xs) (a b c:Value) :
  (((w1.setCell ⟨w.heap.size,0,none⟩ a).setCell ⟨w.heap.size,1,none⟩ b).setCell ⟨w.heap.size,2,none⟩ c).ownsRow w.heap.size 9 1 v n xs:=by
 obtain ⟨hl,hv⟩:=h;refine ⟨hl,?_⟩;rcases hv with hv|⟨g,cap,cur,h1,h2,h3,h4⟩
 ·exact .inl hv
 ·refine .inr ⟨g,cap,cur,h1,by omega,?_,h4⟩;rw [heap_setCell_other _ _ _ _ (by simp;omega),heap_setCell_other _ _ _ _ (by simp;omega),heap_setCell_other _ _ _ _ (by simp;omega)];exact h3
theorem QsS {w w1:World} {v:Value} {n:Nat} {xs:List Value} (h:w1.ownsRow (w.heap.size+2) 9 1 v n xs) (u:Value) :
  (w1.setCell ⟨w.heap.size+1,2,none⟩ u).ownsRow (w.heap.size+2) 9 1 v n xs:=by
 obtain ⟨hl,hv⟩:=h;refine ⟨hl,?_⟩;rcases hv with hv|⟨g,cap,cur,h1,h2,h3,h4⟩
 ·exact .inl hv
 ·refine .inr ⟨g,cap,cur,h1,by omega,?_,h4⟩;rw [heap_setCell_other _ _ _ _ (by simp;omega)];exact h3
theorem Qcu {w w1:World} {root:Bool} {up:Int} {v:Value} (h:PathAt w w1 root up v) (s:List UInt8) (e:Nat) (hr:Qay s=Qbi e) :
  QgZ w (Qay s) (.returned (.tuple #[.agg #[.bool false,.int .i64 0,.slice none 0 0],.int .i64 0,.int .i64 e])) (((w1.setCell ⟨w.heap.size,0,none⟩ (.bool false)).setCell ⟨w.heap.size,1,none⟩ (.int .i64 0)).setCell ⟨w.heap.size,2,none⟩ (.slice none 0 0)):=by
 rw [hr];exact ⟨_,rfl,World.ownsRow_nil _ _ _ _,(h.put _ _ _).2⟩
theorem QkC {w w1:World} {root:Bool} {up p:Nat} {v:Value} {acc:List (List UInt8)} (h:PathAt w w1 root up v) (ho:w1.ownsRow (w.heap.size+2) 9 1 v acc.length (acc.map QbT)) (s:List UInt8) (hr:Qay s=⟨root,up,acc,p,0⟩) :
  QgZ w (Qay s) (.returned (.tuple #[.agg #[.bool root,.int .i64 up,v],.int .i64 p,.int .i64 0])) (((w1.setCell ⟨w.heap.size,0,none⟩ (.bool root)).setCell ⟨w.heap.size,1,none⟩ (.int .i64 up)).setCell ⟨w.heap.size,2,none⟩ v):=by
 rw [hr];exact ⟨_,rfl,QsR ho _ _ _,(h.put _ _ _).2⟩
theorem Qgn (l:List UInt8) (most:Int) (pre:Bool):0<=(Qa0 l most pre).1/\(Qa0 l most pre).1<=255/\0<=(Qa0 l most pre).2.1/\(Qa0 l most pre).2.1<=l.length/\0<=(Qa0 l most pre).2.2:=by
 match l with
 | []=>simp [Qa0]
 | c::r =>
   simp only [Qa0];split
   ·split<;>simp<;>omega
   ·split
    ·split<;>simp<;>omega
    ·split
     ·split
      ·simp;omega
      ·match r with
       | []=>simp [QcG]
       | d::t =>
         have:=d.toNat_lt;simp only [QcG];split
         ·simp;omega
         ·split<;>simp<;>omega
     ·split<;>simp<;>omega
theorem QkD (s:List UInt8):∀ f i n,(QbX s f i n).2=0->f=0\/i+f<=s.length
 | 0,_,_,_=>.inl rfl
 | f+1,i,n,h=>by
   right;by_cases hl:i<s.length
   ·rw [Qgm s f i n hl] at h;cases hn:Qbw s[i].toNat i n with
    | none=>rw [hn] at h;simp at h
    | some m =>
      rw [hn] at h;rcases QkD s f (i+1) m h with h0|h0<;>omega
   ·rw [Qgl s f i n (by omega)] at h;simp at h
theorem QkE (s:List UInt8) (h:(Qb5 s).2=0):4<=s.length:=by
 rcases QkD s 4 0 0 h with h0|h0<;>omega
theorem Qja (s:List UInt8) (most:Int) (pre:Bool) (a b c:Int) (H:Hid (Qa0 s most pre=(a,b,c))) (w:World) (hm:s.length<=9223372036854775000) (h0:0<=most) (h255:most<=255) :
  Calls Tryz.prog 204 #[.string ⟨s.toArray⟩,.int .i64 most,.bool pre] w fun e w'=>e = .returned (.tuple #[.int .i64 a,.int .i64 b,.int .i64 c])/\w'=w :=
 (Qhv s most pre w hm h0 h255).mono fun _ _ ⟨he,hw⟩=>⟨by rw [he,H.out];rfl,hw.symm⟩
theorem QkF (s:List UInt8) (l:List UInt8) (e:Nat) (H:Hid (Qb5 s=(l,e))) (w:World) (hm:s.length<=9223372036854775000) :
  Calls Tryz.prog 205 #[.string ⟨s.toArray⟩] w fun e' w'=>e' = .returned (.tuple #[.string ⟨l.toArray⟩,.int .i64 e])/\w=w' :=
 (Ql6 s w hm).mono fun _ _ ⟨he,hw⟩=>⟨by rw [he,H.out];rfl,hw⟩
theorem QkG:(Tryz.prog.info? 9).map (fun i=>(i.zero,i.size,i.bytes))=some (some (.string ByteArray.empty),1,16):=by kernel_rfl
theorem Qpz {s:List UInt8} {n p:Nat} {acc:List (List UInt8)} {l:List UInt8} (h:Qb5 (s.drop p)=(l,0)):Qbn s (n+1) p acc=Qbn s n (p+4) (acc++[l]):=by
 rw [Qbn,h,if_pos rfl]
theorem Qjb {s:List UInt8} {n p e:Nat} {acc:List (List UInt8)} {l:List UInt8} (h:Qb5 (s.drop p)=(l,e)) (he:¬ e=0):Qbn s (n+1) p acc=([],0,e):=by
 rw [Qbn,h,if_neg he]
theorem QeL {s:List UInt8} {root:Bool} {up pos:Nat} {a b c:Int} (h32:¬ 32<up) (h:Qa0 (s.drop pos) (32-up) (decide (0<pos))=(a,b,c)) (hc:¬ c=0):QaD s root up pos=Qbi c.toNat:=by
 rw [QaD,if_neg h32,h];exact if_neg hc
theorem Qoz {s:List UInt8} {root:Bool} {up pos:Nat} {a b:Int} (h32:¬ 32<up) (h:Qa0 (s.drop pos) (32-up) (decide (0<pos))=(a,b,0)):QaD s root up pos=if (Qbn s a.toNat (pos+b.toNat) []).2.2=0 then ⟨root,up,(Qbn s a.toNat (pos+b.toNat) []).1,(Qbn s a.toNat (pos+b.toNat) []).2.1,0⟩ else Qbi (Qbn s a.toNat (pos+b.toNat) []).2.2:=by
 rw [QaD,if_neg h32,h];exact if_pos rfl
theorem PathAt.drewN {w w1:World} {root:Bool} {up:Int} {v:Value} (h:PathAt w w1 root up v) (n:Nat):PathAt w (w1.drewN n) root up v:=⟨by simpa using h.1,by simpa using h.2.1,below_drewN h.2.2 n⟩
def Qnw (w:World) (s:List UInt8) (root:Bool) (up:Nat) (n p0:Nat) (i6 i62:Value) (wr:World):Prop :=
 ∃ (k p:Nat) (acc:List (List UInt8)) (v:Value),i6 = .int .i64 p/\i62 = .int .i64 k/\k<=n/\p<=s.length/\acc.length=k/\Hid (Qbn s n p0 []=Qbn s (n-k) p acc)/\Hid (PathAt w wr root up v)/\Hid (wr.ownsRow (w.heap.size+2) 9 1 v acc.length (acc.map QbT))
theorem Ql9 {w wr w1:World} {s:List UInt8} {root:Bool} {up n p0 k p:Nat} {acc:List (List UInt8)} {v:Value} {l:List UInt8} {g cap:Nat} {o:Obj} (hk:k<n) (hl:acc.length=k)
  (HG:Hid (Qbn s n p0 []=Qbn s (n-k) p acc)) (HP:Hid (PathAt w wr root up v)) (HO:Hid (wr.ownsRow (w.heap.size+2) 9 1 v acc.length (acc.map QbT)))
  (HS:Hid (Qb5 (s.drop p)=(l,0))) (h4:p+4<=s.length)
  (H1:Hid (w1.ownsRow (w.heap.size+2) 9 1 (.slice (some ⟨g,0,none⟩) (acc.length+1) cap) (acc.length+1) (acc.map QbT++[.string ⟨l.toArray⟩]))) (H2:Hid ((wr.alloc o).grownBy w1 v.ownBlock)) :
  Qnw w s root up n p0 (.int .i64 ((p:Int)+4)) (.int .i64 ((k:Int)+1)) (w1.setCell ⟨w.heap.size+1,2,none⟩ (.slice (some ⟨g,0,none⟩) (acc.length+1) cap)):=by
 refine ⟨k+1,p+4,acc++[l],.slice (some ⟨g,0,none⟩) (acc.length+1) cap,by go_num,by go_num,by omega,by omega,by simp [hl],Za ?_,Za ?_,Za ?_⟩
 ·rw [HG.out,show n-k=(n-(k+1))+1 by omega,Qpz HS.out]
 ·exact ((HP.out.alloc o).grown H2.out (fun k hk=>(HO.out.lt k hk).1)).seg _
 ·have h:=QsS H1.out (.slice (some ⟨g,0,none⟩) (acc.length+1) cap);rw [List.length_append,List.map_append];exact h
theorem QfQ {w:World} {B e z:Nat} {v:Value} {n:Nat} {xs:List Value} (h:w.ownsRow B e z v n xs):∃ (a:Option Addr) (m c:Nat),v = .slice a m c:=by
 rcases h.2 with ⟨h,_⟩|⟨g,cap,cur,h,_⟩
 ·exact ⟨_,_,_,h⟩
 ·exact ⟨_,_,_,h⟩
theorem Qq7 (s:List UInt8) (w:World) (hm:s.length<=9223372036854774000):Calls Tryz.prog 152 #[.string ⟨s.toArray⟩] w (QgZ w (Qay s)):=by
 have HR:=Za (Qhw s);have hple:=Ql8 s;have hule:=Qoy s (Qbh s);have HU:Hid (Qln s (Qbh s)=if Qbh s=true then 0 else Qbo s):=Za rfl;have HQ:Hid (Qfw s (Qbh s)=if Qbh s=true then 1 else Qbo s):=Za rfl;generalize Qln s (Qbh s)=up at *;generalize Qfw s (Qbh s)=pos at *;go_enter Tryz.func152,Tryz.ntmps152;go_wp2_with fail;refine (Qkc s _ (by omega)).mono ?_;rintro e w1 ⟨rfl,hw1⟩;have HP:Hid (PathAt w w1 false 0 (.slice none 0 0)):=Za (hw1▸PathAt.start w);clear hw1;generalize Qbh s=root at *;go_upto_if 13 with fail;go_cut [6] (fun i wx=>i = .int .i64 (if root=true then 1 else 0)/\Hid (PathAt w wx root 0 (.slice none 0 0)))
 case first =>
  have f0:=HP.out.free 0;have c0:=HP.out.cells.1;cases root
  ·go_wp2_with fail;go_meet;exact ⟨rfl,HP⟩
  ·go_wp2_with fail;go_meet;exact ⟨rfl,Za (HP.out.root true)⟩
 case rest =>
  obtain ⟨rfl,HP1⟩:=hcut;clear HP;obtain ⟨w2,rfl⟩:∃ x:World,x=wc:=⟨_,rfl⟩;have c0:=HP1.out.cells.1;go_upto_block 0 with fail;go_cut [6] (fun i wx=>i = .int .i64 pos/\w2=wx)
  case first =>
   cases root
   ·have HQ':Hid (pos=Qbo s):=HQ;clear HQ HU HR;go_wp2_with fail;go_loop [6] (fun i=>∃ k:Nat,i = .int .i64 k/\k<=s.length/\Qbo s=k+Qbo (s.drop k)) (fun i=>s.length-(intOf i).toNat)
    case atStart=>exact ⟨0,rfl,Nat.zero_le _,by simp⟩
    case round =>
     obtain ⟨k,rfl,hk,hc⟩:=hrel;have HC:=Za hc;clear hc;by_cases hl:k<s.length
     ·by_cases h94:s[k].toNat=94
      ·have h94':(s[k].toNat:Int)=94:=by omega
       go_wp2_with fail;go_round
       case rel=>exact ⟨k+1,by go_num,by omega,by rw [HC.out,Qi9 s k hl h94]⟩
       case measure=>simp [intOf];omega
      ·have h94':¬ (s[k].toNat:Int)=94:=by omega
       have HK:Hid (pos=k):=Za (by rw [HQ'.out,HC.out,QkB s k hl h94];omega);go_wp2_with fail;go_meet;exact ⟨by rw [HK.out],rfl⟩
     ·have HK:Hid (pos=k):=Za (by rw [HQ'.out,HC.out,List.drop_eq_nil_of_le (by omega)]<;>rfl);go_wp2_with fail;go_meet;exact ⟨by rw [HK.out],rfl⟩
   ·have HQ':Hid (pos=1):=HQ;clear HQ HU HR;go_wp2_with fail;refine wp_loop_rounds 1 ?_;rw [rounds_succ];go_wp2_with fail;go_meet;exact ⟨by rw [HQ'.out];rfl,rfl⟩
  case rest =>
   obtain ⟨rfl,rfl⟩:=hcut;have c1:=HP1.out.cells.2.1;have f1:=HP1.out.free 1;go_upto_if 34 with fail;go_cut [] (fun wx=>Hid (PathAt w wx root up (.slice none 0 0)))
   case first =>
    cases root
    ·have HE:Hid (up=pos):=Za (HU.out.trans HQ.out.symm);clear HU HQ HR;go_wp2_with fail;go_meet;exact Za (by rw [HE.out];exact HP1.out.up pos)
    ·have HE:Hid (up=0):=Za HU.out;clear HU HQ HR;go_wp2_with fail;go_meet;exact Za (by rw [HE.out];exact HP1.out)
   case rest =>
    clear HP1 c0 c1 f1 HU HQ;obtain ⟨w3,rfl⟩:∃ x:World,x=wc:=⟨_,rfl⟩;have HP:=hcut;clear hcut;have c1:=HP.out.cells.2.1;have f2:=HP.out.free 2;obtain ⟨r0,r1,r2⟩:=HP.out.res;have g0:=HP.out.resFree 0;have g1:=HP.out.resFree 1;have g2:=HP.out.resFree 2;by_cases h32:32<up
    ·have h32':(32:Int)<up:=by omega
     have HR2:Hid (Qay s=Qbi 3):=Za (by rw [HR.out,QaD,if_pos h32]);go_wp2_with fail;exact bodyPost_ret (Qg0 _ _ _ _ _ _ rfl (HP.out.put _ _ _).1) rfl (Qcu HP.out s 3 HR2.out)
    ·have h32':¬ (32:Int)<up:=by omega
     obtain ⟨⟨a,b,c⟩,hcn⟩:∃ x,x=Qa0 (s.drop pos) (32-up) (decide (0<pos)):=⟨_,rfl⟩;obtain ⟨ha0,ha1,hb0,hb1,hc0⟩:=Qgn (s.drop pos) (32-up) (decide (0<pos));rw [<- hcn] at ha0 ha1 hb0 hb1 hc0;have HC:Hid (Qa0 (s.drop pos) (32-up) (decide (0<pos))=(a,b,c)):=Za hcn.symm;clear hcn;rw [List.length_drop] at hb1;simp only at ha0 ha1 hb0 hb1 hc0;have hb2:(pos:Int)+b<=s.length:=by omega
     have hl1:(List.drop pos s).length<=9223372036854775000:=by rw [List.length_drop];omega
     have h3a:0<=32-(up:Int):=by omega
     have h3b:32-(up:Int)<=255:=by omega
     have hwr:IntKind.i64.wrap (32-(up:Int))=32-(up:Int):=IntWalk.i64_in _ (by omega);go_upto_region 12 with fail;go_quiet ((go_at_call 204;with_reducible refine Calls.quiet_of_same (Qja (s.drop pos) _ _ a b c HC _ hl1 h3a h3b)));clear hwr hl1 h3a h3b;have HPn:Hid (PathAt w (w3.drewN nq) root up (.slice none 0 0)):=Za (HP.out.drewN nq);by_cases hce:c=0
     ·subst hce;have HR2:Hid _:=Za (HR.out.trans (Qoz h32 HC.out));clear HR HC;obtain ⟨n,rfl⟩:=Int.eq_ofNat_of_zero_le ha0;obtain ⟨m,rfl⟩:=Int.eq_ofNat_of_zero_le hb0;simp only [Int.toNat_natCast] at HR2;have hpm:pos+m<=s.length:=by omega
      clear hb2 hb1 ha0 hb0 hc0;clear HP;generalize hww:w3.drewN nq=w4 at *;clear hww;go_wp2_with fail;go_loopw [6,62] (fun i6 i62 wr=>Qnw w s root up n (pos+m) i6 i62 wr) (fun _ i _=>n-(intOf i).toNat)
      case atStart=>exact ⟨0,pos+m,[],_,by go_num,rfl,Nat.zero_le _,hpm,rfl,Za rfl,HPn,Za (World.ownsRow_nil _ _ _ _)⟩
      case round =>
       obtain ⟨k,p,acc,v,rfl,rfl,hk,hp,hacc,HG,HP,HO⟩:=hrel;have HA:=Za hacc;have hal:acc.length<=n:=by omega
       clear hacc HPn;by_cases hlt:k<n
       ·obtain ⟨⟨l,e⟩,hsg⟩:∃ x,x=Qb5 (s.drop p):=⟨_,rfl⟩;have HS:Hid (Qb5 (s.drop p)=(l,e)):=Za hsg.symm;clear hsg;have c2:=HP.out.cells.2.2;have f2:=HP.out.free 2;obtain ⟨r0,r1,r2⟩:=HP.out.res;have g0:=HP.out.resFree 0;have g1:=HP.out.resFree 1;have g2:=HP.out.resFree 2;by_cases he:e=0
        ·subst he;have h4:p+4<=s.length:=by
          have:=QkE (s.drop p) (by rw [HS.out]);rw [List.length_drop] at this;omega
         obtain ⟨i0,hi,hz0,hz1,hz2⟩:=info_parts QkG;go_wp2_with fail;((with_reducible refine (QkF (s.drop p) l 0 HS _ (by rw [List.length_drop];omega)).mono ?_));rintro e w' ⟨rfl,rfl⟩;have hba:w.heap.size+2<=(wr.alloc (.cells #[.string ⟨l.toArray⟩] 9)).heap.size:=by have:=HP.out.lt;simp;omega
         go_wp2_with (at_builtin;refine wpList_append_lies _ rfl _ _ 49 rfl (w.heap.size+2) 9 i0 _ 1 16 Tryz.underlying49 hi hz0 hz1 hz2 rfl (by omega) v acc.length _ rfl (HO.out.alloc _) ⟨wr.heap.size,0,none⟩ 1 1 [.string ⟨l.toArray⟩] rfl rfl (World.news_of_block (heap_alloc_new wr _)) (by intro u hu;simp at hu;subst hu;rfl) (by omega) (by unfold maxLen;omega) (by omega) hba _ rfl ?_;intro g cap w5 hown hgrow hat hlt5;have H1:=Za hown;have H2:=Za hgrow;have HP5:Hid (PathAt w w5 root up v):=Za ((HP.out.alloc _).grown hgrow (fun k hk=>(HO.out.lt k hk).1));have f5:=HP5.out.free 2;have c5:=HP5.out.cells.2.2;clear hown hgrow hat hlt5 r0 r1 r2 g0 g1 g2 c2 f2);go_roundw
         case rel=>exact Ql9 hlt HA.out HG HP HO HS h4 H1 H2
         case measure=>simp [intOf];omega
        ·have he':((e:Int) != 0)=true:=by simpa using he
         have HR3:Hid (Qay s=Qbi e):=Za (by rw [HR2.out,HG.out,show n-k=(n-k-1)+1 by omega,Qjb HS.out he,if_neg he]);go_wp2_with fail;((with_reducible refine (QkF (s.drop p) l e HS _ (by rw [List.length_drop];omega)).mono ?_));rintro e w' ⟨rfl,rfl⟩;go_wp2_with fail;exact bodyPost_ret (Qg0 _ _ _ _ _ _ rfl (HP.out.put _ _ _).1) rfl (Qcu HP.out s _ HR3.out)
       ·obtain rfl:k=n:=by omega
        have HR3:Hid (Qay s=⟨root,up,acc,p,0⟩):=Za (by rw [HR2.out,HG.out,Nat.sub_self]<;>rfl);obtain ⟨va,vn,vc,rfl⟩:=QfQ HO.out;obtain ⟨c0,c1,c2⟩:=HP.out.cells;obtain ⟨r0,r1,r2⟩:=HP.out.res;have g0:=HP.out.resFree 0;have g1:=HP.out.resFree 1;have g2:=HP.out.resFree 2;go_wp2_with fail;exact bodyPost_ret (Qg0 _ _ _ _ _ _ rfl (HP.out.put _ _ _).1) rfl (QkC HP.out HO.out s HR3.out)
     ·have HR2:Hid (Qay s=Qbi c.toNat):=Za (HR.out.trans (QeL h32 HC.out hce));clear HR HC;obtain ⟨c',rfl⟩:=Int.eq_ofNat_of_zero_le hc0;have hcn:((c':Int) != 0)=true:=by simpa using hce
      go_wp2_with fail;exact bodyPost_ret (Qg0 _ _ _ _ _ _ rfl (HPn.out.put _ _ _).1) rfl (Qcu HPn.out s c' HR2.out)
end
end Go.Proofs.YtoohondkpddmcaaGreatDoor
