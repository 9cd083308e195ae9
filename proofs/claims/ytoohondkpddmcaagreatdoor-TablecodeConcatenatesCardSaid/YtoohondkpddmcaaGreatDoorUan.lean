/- Frseg Frsga Flen2 Fllen Finca -/
import Derived.Test.YtoohondkpddmcaaGreatDoorUzz
import Derived.Test.YtoohondkpddmcaaGreatDoorUaa
import Derived.Test.YtoohondkpddmcaaGreatDoorUam
import Derived.Test.YtoohondkpddmcaaGreatDoorUal
namespace Go.Proofs.YtoohondkpddmcaaGreatDoor
set_option maxHeartbeats 32000000
set_option linter.unusedVariables false
set_option linter.unusedSimpArgs false
section
open Go.RowKit
attribute [local go_sem] ByteArray.mk_append_mk Qac Qad Qae
def QeT (s:List UInt8) (m n:Nat):Bool:=Qa2 (s.take n)&&(List.take (m-n) (List.drop n s)==List.take (m-n) [0,0,0])
def Qcp (s:List UInt8) (m:Nat):Nat->Nat->Option Nat
 | 0,_=>none
 | f+1,n=>if QeT s m n=true then some n else Qcp s m f (n+1)
def Qee (s:List UInt8):List UInt8×Nat :=
 if 4<=s.length then match Qcp s 4 4 1 with
  | some n=>(s.take n,0)
  | none=>([],3)
 else if s=[] then ([],4) else match Qcp s s.length s.length 1 with
  | some _=>([],4)
  | none=>([],3)
end
section
open Go.RowKit
def upB (c:UInt8):Bool:=QgH c.toNat 0
def Qfm (c:UInt8):Bool:=QgH c.toNat 1
theorem Qbr (c:UInt8) (r:List UInt8):Qa2 (c::r)=(decide (r.length<=3)&&upB c&&r.all Qfm):=by
 have e1:∀ x:UInt8,(idB x&&!Qbz x)=Qfm x:=by
  intro x;unfold idB QaK Qba Qbz Qfm QgH;rw [Bool.eq_iff_iff];simp only [Bool.and_eq_true,Bool.or_eq_true,decide_eq_true_eq,Bool.not_eq_true',decide_eq_false_iff_not];omega
 have e2:∀ x:UInt8,(QaK x&&(idB x&&!Qbz x))=upB x:=by
  intro x;unfold idB QaK Qba Qbz upB QgH;rw [Bool.eq_iff_iff];simp only [Bool.and_eq_true,Bool.or_eq_true,decide_eq_true_eq,Bool.not_eq_true',decide_eq_false_iff_not];omega
 have e3:∀ l:List UInt8,(l.all idB&&!Qch l)=l.all Qfm:=by
  intro l;induction l with
  | nil=>rfl
  | cons x t ih =>
    unfold Qch at ih |-;rw [List.all_cons,List.any_cons,List.all_cons,<- ih,<- e1];cases idB x<;>cases Qbz x<;>cases t.all idB<;>cases t.any Qbz<;>rfl
 rw [Qa2];have h:=e3 r;unfold Qch at h |-;rw [List.all_cons,List.any_cons,<- h,<- e2 c];cases idB c<;>cases Qbz c<;>cases QaK c<;>cases r.all idB<;>cases r.any Qbz<;>simp
theorem Qcf:Qfm 0=false:=by decide
theorem Qdk (i n:Nat) (h:0<i):Qbt 0 i n=some n:=Qip rfl h
theorem QbP (c:UInt8) (i n:Nat) (hc:c≠0) (h:0<i):Qbt c.toNat i n=if n<i then none else if Qfm c=true then some (i+1) else none:=by
 have h0:¬ (c.toNat=0/\0<i):=fun ⟨h,_⟩=>hc (UInt8.toNat.inj h);have e:QgH c.toNat i=Qfm c:=by unfold Qfm QgH;rw [Bool.eq_iff_iff,decide_eq_true_eq,decide_eq_true_eq];omega
 rw [Qbt,if_neg h0,e]
theorem Qpv (c:UInt8):Qbt c.toNat 0 0=if upB c=true then some 1 else none:=by
 rw [Qbt,if_neg (by omega),if_neg (by omega)];rfl
theorem QbL (s:List UInt8) (f i n:Nat) (c:UInt8) (h:s[i]?=some c):QbV s (f+1) i n=match Qbt c.toNat i n with
 | none=>([],3)
 | some m=>QbV s f (i+1) m:=by rw [QbV,h];rfl
theorem Qnb (s:List UInt8) (f i n:Nat) (h:s[i]?=none):QbV s (f+1) i n=([],4):=by rw [QbV,h]
theorem Qg9 (c:UInt8) (r:List UInt8):QbZ (c::r)=if upB c=true then QbV (c::r) 3 1 1 else ([],3):=by
 rw [QbZ,QbL _ _ _ _ c rfl,Qpv];split<;>rename_i h<;>split at h<;>simp_all
theorem Qmh (s:List UInt8):Qee s=QbZ s:=by
 match s with
 | []=>rfl
 | [a] =>
   rw [Qg9,Qnb _ _ _ _ rfl];simp [Qee,Qcp,QeT,Qbr];cases upB a<;>rfl
 | [a,b] =>
   rw [Qg9];by_cases hb:b=0
   ·subst hb;rw [QbL _ _ _ _ (0:UInt8) rfl,show (0:UInt8).toNat=0 from rfl,Qdk _ _ (by omega)];simp only;rw [Qnb _ _ _ _ rfl];simp [Qee,Qcp,QeT,Qbr];cases upB a<;>rfl
   ·rw [QbL _ _ _ _ b rfl,QbP b _ _ hb (by omega)];simp [Qee,Qcp,QeT,Qbr,hb];cases upB a<;>cases Qfm b<;>simp [QbV]
 | [a,b,c] =>
   rw [Qg9];by_cases hb:b=0
   ·subst hb;rw [QbL _ _ _ _ (0:UInt8) rfl,show (0:UInt8).toNat=0 from rfl,Qdk _ _ (by omega)];simp only;by_cases hc:c=0
    ·subst hc;rw [QbL _ _ _ _ (0:UInt8) rfl,show (0:UInt8).toNat=0 from rfl,Qdk _ _ (by omega)];simp only;rw [Qnb _ _ _ _ rfl];simp [Qee,Qcp,QeT,Qbr,Qcf];cases upB a<;>rfl
    ·rw [QbL _ _ _ _ c rfl,QbP c _ _ hc (by omega)];simp [Qee,Qcp,QeT,Qbr,hc,Qcf]
   ·rw [QbL _ _ _ _ b rfl,QbP b _ _ hb (by omega)];by_cases hc:c=0
    ·subst hc;simp [Qee,Qcp,QeT,Qbr,hb,Qcf];cases upB a<;>cases Qfm b<;>simp [QbV,Qbt]
    ·simp [Qee,Qcp,QeT,Qbr,hb,hc];cases upB a<;>cases hb':Qfm b<;>simp;rw [QbL _ _ _ _ c rfl,QbP c _ _ hc (by omega)];cases Qfm c<;>simp [QbV]
 | a::b::c::d::t =>
   rw [Qg9];have h4:4<=(a::b::c::d::t).length:=by simp
   rw [Qee,if_pos h4];by_cases hb:b=0
   ·subst hb;rw [QbL _ _ _ _ (0:UInt8) rfl,show (0:UInt8).toNat=0 from rfl,Qdk _ _ (by omega)];simp only;by_cases hc:c=0
    ·subst hc;rw [QbL _ _ _ _ (0:UInt8) rfl,show (0:UInt8).toNat=0 from rfl,Qdk _ _ (by omega)];simp only;by_cases hd:d=0
     ·subst hd;rw [QbL _ _ _ _ (0:UInt8) rfl,show (0:UInt8).toNat=0 from rfl,Qdk _ _ (by omega)];simp [Qcp,QeT,Qbr,Qcf,QbV];cases upB a<;>rfl
     ·rw [QbL _ _ _ _ d rfl,QbP d _ _ hd (by omega)];simp [Qcp,QeT,Qbr,Qcf,hd]
    ·rw [QbL _ _ _ _ c rfl,QbP c _ _ hc (by omega)];simp [Qcp,QeT,Qbr,hc,Qcf]
   ·rw [QbL _ _ _ _ b rfl,QbP b _ _ hb (by omega)];by_cases hc:c=0
    ·subst hc;by_cases hd:d=0
     ·subst hd;simp [Qcp,QeT,Qbr,hb,Qcf];cases upB a<;>cases Qfm b<;>simp [QbV,Qbt]
     ·simp [Qcp,QeT,Qbr,hb,hd,Qcf];cases upB a<;>cases hb':Qfm b<;>simp;rw [QbL _ _ _ _ (0:UInt8) rfl,show (0:UInt8).toNat=0 from rfl,Qdk _ _ (by omega)];simp only;rw [QbL _ _ _ _ d rfl,QbP d _ _ hd (by omega)];simp
    ·by_cases hd:d=0
     ·subst hd;simp [Qcp,QeT,Qbr,hb,hc,Qcf];cases upB a<;>cases hb':Qfm b<;>simp;rw [QbL _ _ _ _ c rfl,QbP c _ _ hc (by omega)];cases Qfm c<;>simp [QbV,Qbt]
     ·simp [Qcp,QeT,Qbr,hb,hc,hd];cases upB a<;>cases hb':Qfm b<;>simp;rw [QbL _ _ _ _ c rfl,QbP c _ _ hc (by omega)];cases hc':Qfm c<;>simp;rw [QbL _ _ _ _ d rfl,QbP d _ _ hd (by omega)];cases Qfm d<;>simp [QbV]
end
section
open Go.RowKit
attribute [local go_sem] Qc2 Qdd ByteArray.mk_append_mk QcO QcP Qkv Qkw Qkx
def QbJ (c:UInt8) (r:List UInt8) (k lim:Nat):Int×Nat×Nat :=
 if c.toNat / 16 % 4≠0 then (0,0,3)
 else if r.length+1<k then (0,0,4)
 else if c.toNat % 16+16 * num (r.take (k-1))<lim+1 then (0,0,3)
 else ((c.toNat % 16+16 * num (r.take (k-1)):Nat)-(k:Int),k,0)
def QbE:List UInt8->Int×Nat×Nat
 | []=>(0,0,4)
 | c::r =>
   if c.toNat=0 then (0,0,3)
   else if c.toNat<64 then ((c.toNat:Int)-1,1,0)
   else if c.toNat<128 then QbJ c r 2 64
   else if c.toNat<192 then QbJ c r 3 4096
   else QbJ c r 4 1048576
def Qrs (x:Int×Nat×Nat):Value:=.tuple #[.int .i64 x.1,.int .i64 x.2.1,.int .i64 x.2.2]
theorem Qcu {x:Int×Nat×Nat} {a b c:Int} (h:x=(a,b.toNat,c.toNat)) (hb:0<=b) (hc:0<=c):Ending.returned (.tuple #[.int .i64 a,.int .i64 b,.int .i64 c]) = .returned (Qrs x):=by
 subst h;simp only [Qrs,Int.toNat_of_nonneg hb,Int.toNat_of_nonneg hc]
theorem QkF (s:List UInt8) (v:Int) (w:World) (hs:s.length<=8) (HV:Hid (v=(num s:Nat))) :
 Calls Tryz.prog 151 #[.string ⟨s.toArray⟩] w fun e w'=>e = .returned (.int .u64 v)/\w=w':=by rw [HV.out];exact Qky s w hs
theorem QeJ (r:List UInt8) (k:Nat) (h:k<=r.length):num (r.take k)<256 ^ k:=by
 have:=Qm6 (r.take k)
 rwa [List.length_take,Nat.min_eq_left h] at this
theorem QsW {x:Int} (h:(x / 16 % 4 * 16 != 0)=true):x / 16 % 4≠0:=by
 simp only [bne_iff_ne,ne_eq] at h;omega
theorem QkG {x:Int} (h:(x / 16 % 4 * 16 != 0)=false):x / 16 % 4=0:=by
 simp only [bne_eq_false_iff_eq] at h;omega
theorem QiX {c:UInt8} {r:List UInt8} {k lim:Nat} (h:((c.toNat:Int) / 16 % 4 * 16 != 0)=true):QbJ c r k lim=(0,0,3):=by
 have:=QsW h;rw [QbJ,if_pos (by omega)]
theorem Qf1 {c:UInt8} {r:List UInt8} {k lim:Nat} (h:((c.toNat:Int) / 16 % 4 * 16 != 0)=false) (hr:(r.length:Int)+1<k):QbJ c r k lim=(0,0,4):=by
 have:=QkG h;rw [QbJ,if_neg (by omega),if_pos (by omega)]
theorem QhQ {c:UInt8} {r:List UInt8} {k lim:Nat} {v:Int} (h:((c.toNat:Int) / 16 % 4 * 16 != 0)=false) (hr:¬ (r.length:Int)+1<k) (HV:Hid (v=(num (r.take (k-1)):Nat))) (hl:(c.toNat:Int) % 16+v * 16-1<lim):QbJ c r k lim=(0,0,3):=by
 have:=QkG h;have:=HV.out;rw [QbJ,if_neg (by omega),if_neg (by omega),if_pos (by omega)]
theorem QiY {c:UInt8} {r:List UInt8} {k lim:Nat} {v:Int} (h:((c.toNat:Int) / 16 % 4 * 16 != 0)=false) (hr:¬ (r.length:Int)+1<k) (HV:Hid (v=(num (r.take (k-1)):Nat))) (hl:¬ (c.toNat:Int) % 16+v * 16-1<lim):QbJ c r k lim=((c.toNat:Int) % 16+v * 16-k,k,0):=by
 have:=QkG h;have:=HV.out;rw [QbJ,if_neg (by omega),if_neg (by omega),if_neg (by omega)];simp only [Prod.mk.injEq,and_true];omega
def QnY (k lim:Nat):Prop:=(k=2/\lim=64)\/(k=3/\lim=4096)\/(k=4/\lim=1048576)
theorem Qpw {k lim:Nat} (hf:QnY k lim) (c:UInt8) (l:List UInt8) (t:Nat) (hl:l.length=k-1) (hc:c.toNat / 64=k-1) (h48:c.toNat / 16 % 4=0) (ht:t=c.toNat % 16+16 * num l):QbX t k=c::l:=by
 have hb:=QhN l;rw [hl] at hb;have h1:(k-1) * 64+t % 16=c.toNat:=by rcases hf with ⟨rfl,rfl⟩|⟨rfl,rfl⟩|⟨rfl,rfl⟩<;>omega
 have h2:t / 16=num l:=by omega
 rw [QbX,h1,h2,hb];simp
theorem Qjz {k lim:Nat} (hf:QnY k lim) (n:Int) (h:¬ n+k-1<lim) (h':n+k<16 * 256 ^ (k-1)):QaP n=QbX (n+k).toNat k:=by
 unfold QaP;rcases hf with ⟨rfl,rfl⟩|⟨rfl,rfl⟩|⟨rfl,rfl⟩
 ·rw [if_neg (by omega),if_neg (by omega),if_pos (by omega)];rfl
 ·rw [if_neg (by omega),if_neg (by omega),if_neg (by omega),if_pos (by omega)];rfl
 ·rw [if_neg (by omega),if_neg (by omega),if_neg (by omega),if_neg (by omega),if_pos (by omega)];rfl
theorem QgI (x:Int):(x / 16 % 4 * 16 != 0)=true\/(x / 16 % 4 * 16 != 0)=false:=by
 cases h:(x / 16 % 4 * 16 != 0)<;>simp
theorem Qmi {c:UInt8} {r:List UInt8} (hz:¬ (c.toNat:Int)<1) (hc:c.toNat<64):QbE (c::r)=((c.toNat:Int)-1,1,0):=by
 rw [QbE,if_neg (by omega),if_pos hc]
theorem Qpx {c:UInt8} (hz:¬ (c.toNat:Int)<1) (hc:c.toNat<64):QaP ((c.toNat:Int)-1)=[c]:=by
 rw [QaP,if_neg (by omega),if_pos (by omega),show ((c.toNat:Int)-1+1).toNat=c.toNat by omega];simp
theorem QkH {c:UInt8} {r:List UInt8} (h1:64<=c.toNat) (h2:c.toNat<128):QbE (c::r)=QbJ c r 2 64:=by
 rw [QbE,if_neg (by omega),if_neg (by omega),if_pos h2]
theorem QkI {c:UInt8} {r:List UInt8} (h1:128<=c.toNat) (h2:c.toNat<192):QbE (c::r)=QbJ c r 3 4096:=by
 rw [QbE,if_neg (by omega),if_neg (by omega),if_neg (by omega),if_pos h2]
theorem QkJ {c:UInt8} {r:List UInt8} (h1:192<=c.toNat):QbE (c::r)=QbJ c r 4 1048576:=by
 rw [QbE,if_neg (by omega),if_neg (by omega),if_neg (by omega),if_neg (by omega)]
set_option maxRecDepth 100000 in
theorem QsX (c:UInt8) (r:List UInt8) (w:World) (hm:r.length<=9223372036854774000) (h1:64<=c.toNat) (h2:c.toNat<128) :
  Calls Tryz.prog 232 #[.string ⟨(c::r).toArray⟩] w fun e w'=>e = .returned (Qrs (QbJ c r 2 64))/\Below w.heap.size w w':=by
 have hq:(c.toNat:Int) / 64=1:=by omega
 rcases QgI (c.toNat:Int) with h48|h48
 ·go_enter Tryz.func232,Tryz.ntmps232;go_wp2_with fail;go_ret3;go_light;exact ⟨Qcu (QiX h48) (by omega) (by omega),Zb⟩
 ·by_cases hr:(r.length:Int)+1<2
  ·go_enter Tryz.func232,Tryz.ntmps232;go_wp2_with fail;go_ret3;go_light;exact ⟨Qcu (Qf1 h48 hr) (by omega) (by omega),Zb⟩
  ·obtain ⟨v,hv⟩:∃ v:Int,v=(num (r.take 1):Nat):=⟨_,rfl⟩;have hlt:=QeJ r 1 (by omega);have hv0:0<=v:=by omega
   have hv1:v<256:=by omega
   have HV:=Za hv;clear hlt hv;have hor:bits .or .i64 ((c.toNat:Int) % 16) (v * 16)=(c.toNat:Int) % 16+v * 16:=Qku _ _ (by omega) (by omega) (by omega) (by omega) (by omega);go_enter Tryz.func232,Tryz.ntmps232;go_wp2_with fail;refine QdK (by kernel_rfl) (by kernel_rfl) ?_
   repeat (go_big_quiet_step ((intro hb;go_at_call 151;exact Calls.grows_of_same hb (QkF _ v _ (by simp;omega) HV))))
   refine wpQuiet_nil ?_;intro w1 hg;clear hor;go_wp2_with (go_at_call 131;refine (Qqi _).mono ?_;rintro e w' ⟨rfl,rfl⟩)
   ·go_ret3;go_light;exact ⟨Qcu (QhQ h48 (by omega) HV (by omega)) (by omega) (by omega),hg⟩
   ·go_ret3;go_light;exact ⟨Qcu (QiY h48 (by omega) HV (by omega)) (by omega) (by omega),hg⟩
set_option maxRecDepth 100000 in
theorem QsY (c:UInt8) (r:List UInt8) (w:World) (hm:r.length<=9223372036854774000) (h1:128<=c.toNat) (h2:c.toNat<192) :
  Calls Tryz.prog 232 #[.string ⟨(c::r).toArray⟩] w fun e w'=>e = .returned (Qrs (QbJ c r 3 4096))/\Below w.heap.size w w':=by
 have hq:(c.toNat:Int) / 64=2:=by omega
 rcases QgI (c.toNat:Int) with h48|h48
 ·go_enter Tryz.func232,Tryz.ntmps232;go_wp2_with fail;go_ret3;go_light;exact ⟨Qcu (QiX h48) (by omega) (by omega),Zb⟩
 ·by_cases hr:(r.length:Int)+1<3
  ·go_enter Tryz.func232,Tryz.ntmps232;go_wp2_with fail;go_ret3;go_light;exact ⟨Qcu (Qf1 h48 hr) (by omega) (by omega),Zb⟩
  ·obtain ⟨v,hv⟩:∃ v:Int,v=(num (r.take 2):Nat):=⟨_,rfl⟩;have hlt:=QeJ r 2 (by omega);have hv0:0<=v:=by omega
   have hv1:v<65536:=by omega
   have HV:=Za hv;clear hlt hv;have hor:bits .or .i64 ((c.toNat:Int) % 16) (v * 16)=(c.toNat:Int) % 16+v * 16:=Qku _ _ (by omega) (by omega) (by omega) (by omega) (by omega);go_enter Tryz.func232,Tryz.ntmps232;go_wp2_with fail;refine QdK (by kernel_rfl) (by kernel_rfl) ?_
   repeat (go_big_quiet_step ((intro hb;go_at_call 151;exact Calls.grows_of_same hb (QkF _ v _ (by simp;omega) HV))))
   refine wpQuiet_nil ?_;intro w1 hg;clear hor;go_wp2_with (go_at_call 131;refine (Qqj _).mono ?_;rintro e w' ⟨rfl,rfl⟩)
   ·go_ret3;go_light;exact ⟨Qcu (QhQ h48 (by omega) HV (by omega)) (by omega) (by omega),hg⟩
   ·go_ret3;go_light;exact ⟨Qcu (QiY h48 (by omega) HV (by omega)) (by omega) (by omega),hg⟩
set_option maxRecDepth 100000 in
theorem QsZ (c:UInt8) (r:List UInt8) (w:World) (hm:r.length<=9223372036854774000) (h1:192<=c.toNat)  :
  Calls Tryz.prog 232 #[.string ⟨(c::r).toArray⟩] w fun e w'=>e = .returned (Qrs (QbJ c r 4 1048576))/\Below w.heap.size w w':=by
 have hq:(c.toNat:Int) / 64=3:=by have hc:=c.toNat_lt;omega
 rcases QgI (c.toNat:Int) with h48|h48
 ·go_enter Tryz.func232,Tryz.ntmps232;go_wp2_with fail;go_ret3;go_light;exact ⟨Qcu (QiX h48) (by omega) (by omega),Zb⟩
 ·by_cases hr:(r.length:Int)+1<4
  ·go_enter Tryz.func232,Tryz.ntmps232;go_wp2_with fail;go_ret3;go_light;exact ⟨Qcu (Qf1 h48 hr) (by omega) (by omega),Zb⟩
  ·obtain ⟨v,hv⟩:∃ v:Int,v=(num (r.take 3):Nat):=⟨_,rfl⟩;have hlt:=QeJ r 3 (by omega);have hv0:0<=v:=by omega
   have hv1:v<16777216:=by omega
   have HV:=Za hv;clear hlt hv;have hor:bits .or .i64 ((c.toNat:Int) % 16) (v * 16)=(c.toNat:Int) % 16+v * 16:=Qku _ _ (by omega) (by omega) (by omega) (by omega) (by omega);go_enter Tryz.func232,Tryz.ntmps232;go_wp2_with fail;refine QdK (by kernel_rfl) (by kernel_rfl) ?_
   repeat (go_big_quiet_step ((intro hb;go_at_call 151;exact Calls.grows_of_same hb (QkF _ v _ (by simp;omega) HV))))
   refine wpQuiet_nil ?_;intro w1 hg;clear hor;go_wp2_with (go_at_call 131;refine (Qqk _).mono ?_;rintro e w' ⟨rfl,rfl⟩)
   ·go_ret3;go_light;exact ⟨Qcu (QhQ h48 (by omega) HV (by omega)) (by omega) (by omega),hg⟩
   ·go_ret3;go_light;exact ⟨Qcu (QiY h48 (by omega) HV (by omega)) (by omega) (by omega),hg⟩
theorem Qpy (s:List UInt8) (w:World) (hm:s.length<=9223372036854774000) :
  Calls Tryz.prog 232 #[.string ⟨s.toArray⟩] w fun e w'=>e = .returned (Qrs (QbE s))/\Below w.heap.size w w':=by
 match s,hm with
 | [],hm =>
   go_enter Tryz.func232,Tryz.ntmps232;go_wp2_with fail;go_ret3;exact ⟨rfl,Zb⟩
 | c::r,hm =>
   simp only [List.length_cons] at hm;by_cases hc:c.toNat<64
   ·have hq:(c.toNat:Int) / 64=0:=by omega
    by_cases hz:c=0
    ·subst hz;go_enter Tryz.func232,Tryz.ntmps232;go_wp2_with fail;go_ret3;exact ⟨rfl,Zb⟩
    have hz:¬ (c.toNat:Int)<1:=by
     intro h;apply hz;apply UInt8.toNat_inj.1;simpa using (by omega:c.toNat=0)
    have hz':((c.toNat:Int)==0)=false:=by simp only [beq_eq_false_iff_ne,ne_eq];omega
    go_enter Tryz.func232,Tryz.ntmps232;go_wp2_with fail;go_ret3;go_light;exact ⟨Qcu (Qmi (by omega) hc) (by omega) (by omega),Zb⟩
   ·by_cases h2:c.toNat<128
    ·rw [QkH (by omega) h2];exact QsX c r w (by omega) (by omega) h2
    ·by_cases h3:c.toNat<192
     ·rw [QkI (by omega) h3];exact QsY c r w (by omega) (by omega) h3
     ·rw [QkJ (by omega)];exact QsZ c r w (by omega) (by omega)
end
section
open Go.RowKit
attribute [local go_sem] Qc2 Qdd ByteArray.mk_append_mk QcO QcP
theorem QnZ {k lim:Nat} (hf:QnY k lim) (n:Int) (h0:¬ n+k-1<lim) (h:n+k<16 * 256 ^ (k-1)) (hn:0<=n) (t:List UInt8) (c:UInt8) (l:List UInt8) (hl:QbX (n+k).toNat k=c::l) :
  QbJ c (l++t) k lim=(n,k,0)/\c.toNat / 64=k-1:=by
 have hkk:2<=k/\k<=4:=by rcases hf with ⟨rfl,rfl⟩|⟨rfl,rfl⟩|⟨rfl,rfl⟩<;>omega
 simp only [QbX,List.cons.injEq] at hl;obtain ⟨hc,hl⟩:=hl;have hlen:l.length=k-1:=by rw [<- hl,QaG]
 have hc':c.toNat=(k-1) * 64+(n+k).toNat % 16:=by
  rw [<- hc,UInt8.toNat_ofNat'];rcases hf with ⟨rfl,rfl⟩|⟨rfl,rfl⟩|⟨rfl,rfl⟩<;>omega
 have hp:(256 ^ (k-1):Int)=((256 ^ (k-1):Nat):Int):=by rw [Int.natCast_pow];rfl
 rw [hp] at h;have hnum:num l=(n+k).toNat / 16:=by
  rw [<- hl,Qkt,Nat.mod_eq_of_lt];omega
 have htk:(l++t).take (k-1)=l:=by
  rw [List.take_append_of_le_length (by omega),List.take_of_length_le (by omega)]
 have hdiv:c.toNat / 64=k-1:=by
  rcases hf with ⟨rfl,rfl⟩|⟨rfl,rfl⟩|⟨rfl,rfl⟩<;>omega
 have h48:c.toNat / 16 % 4=0:=by
  rcases hf with ⟨rfl,rfl⟩|⟨rfl,rfl⟩|⟨rfl,rfl⟩<;>omega
 have hmod:c.toNat % 16=(n+k).toNat % 16:=by
  rcases hf with ⟨rfl,rfl⟩|⟨rfl,rfl⟩|⟨rfl,rfl⟩<;>omega
 refine ⟨?_,hdiv⟩;rw [QbJ,if_neg (by omega),if_neg (by rw [List.length_append];omega),htk,hnum,if_neg (by omega)];simp only [Prod.mk.injEq,and_true];omega
theorem QiZ (n:Int) (t:List UInt8) (hne:QaP n≠[]):QbE (QaP n++t)=(n,(QaP n).length,0):=by
 by_cases h0:n<0\/268435456<=n
 ·exact absurd (by rw [QaP,if_pos h0]) hne
 by_cases h1:n<63
 ·rw [<- QsP (by omega) h1];have hc:(UInt8.ofNat (n+1).toNat).toNat=(n+1).toNat:=by rw [UInt8.toNat_ofNat'];omega
  show QbE (UInt8.ofNat (n+1).toNat::t)=_;rw [QbE,hc,if_neg (by omega),if_pos (by omega)];simp only [Prod.mk.injEq,and_true,List.length_cons,List.length_nil];omega
 have key:∀ (k lim:Nat),QnY k lim->¬ n+k-1<lim->n+k<16 * 256 ^ (k-1)->QbE (QaP n++t)=(n,(QaP n).length,0):=by
  intro k lim hf ha hb;have he:=Qjz hf n ha hb;obtain ⟨c,l,hcl⟩:∃ c l,QbX (n+k).toNat k=c::l:=⟨_,_,rfl⟩;have hk:=QnZ hf n ha hb (by omega) t c l hcl;have hlen:(QbX (n+k).toNat k).length=k:=by
   rw [QbX,List.length_cons,QaG];rcases hf with ⟨rfl,rfl⟩|⟨rfl,rfl⟩|⟨rfl,rfl⟩<;>rfl
  rw [he,hlen,hcl,List.cons_append,<- hk.1];have hcl:=c.toNat_lt;rcases hf with ⟨rfl,rfl⟩|⟨rfl,rfl⟩|⟨rfl,rfl⟩
  ·exact QkH (by omega) (by omega)
  ·exact QkI (by omega) (by omega)
  ·exact QkJ (by omega)
 by_cases h2:n<4094
 ·exact key 2 64 (.inl ⟨rfl,rfl⟩) (by omega) (by omega)
 by_cases h3:n<1048573
 ·exact key 3 4096 (.inr (.inl ⟨rfl,rfl⟩)) (by omega) (by omega)
 by_cases h4:n<268435452
 ·exact key 4 1048576 (.inr (.inr ⟨rfl,rfl⟩)) (by omega) (by omega)
 ·exact absurd (QnS (by omega)).symm hne
theorem QhR (n:Int):(QaP n).length<=4:=by
 unfold QaP
 repeat' split
 all_goals simp [QbX,QaG]
end
section
open Go.RowKit
theorem Qha (r t:List UInt8) (k lim:Nat) (h:(Qcn r k lim).2.2≠4):Qcn (r++t) k lim=Qcn r k lim:=by
 unfold Qcn at h |-;by_cases hk:r.length<k
 ·simp [hk] at h
 ·have h2:¬ (r++t).length<k:=by rw [List.length_append];omega
  rw [List.take_append_of_le_length (by omega)];simp only [hk,h2,if_false]
theorem Qrt (s t:List UInt8) (h:(QbD s).2.2≠4):QbD (s++t)=QbD s:=by
 match s with
 | []=>exact absurd rfl h
 | c::r =>
   rw [List.cons_append];simp only [QbD] at h |-;by_cases h1:c.toNat<=1
   ·rw [if_pos h1,if_pos h1]
   rw [if_neg h1] at h |-;rw [if_neg h1];by_cases h2:c.toNat=255
   ·rw [if_pos h2,if_pos h2]
   rw [if_neg h2] at h |-;rw [if_neg h2];by_cases h3:c.toNat=10
   ·rw [if_pos h3] at h |-;rw [if_pos h3];exact Qha _ _ _ _ h
   rw [if_neg h3] at h |-;rw [if_neg h3];by_cases h4:c.toNat=11
   ·rw [if_pos h4] at h |-;rw [if_pos h4];exact Qha _ _ _ _ h
   rw [if_neg h4] at h |-;rw [if_neg h4];by_cases h5:c.toNat=12
   ·rw [if_pos h5] at h |-;rw [if_pos h5];exact Qha _ _ _ _ h
   rw [if_neg h5] at h |-;rw [if_neg h5];by_cases h6:c.toNat=14
   ·rw [if_pos h6] at h |-;rw [if_pos h6];exact Qha _ _ _ _ h
   rw [if_neg h6,if_neg h6]
theorem QhS (c:UInt8) (r t:List UInt8) (k lim:Nat) (h:(QbJ c r k lim).2.2≠4):QbJ c (r++t) k lim=QbJ c r k lim:=by
 unfold QbJ at h |-;by_cases h0:c.toNat / 16 % 4≠0
 ·rw [if_pos h0,if_pos h0]
 ·rw [if_neg h0] at h |-;rw [if_neg h0];by_cases hk:r.length+1<k
  ·rw [if_pos hk] at h;exact absurd rfl h
  ·have h2:¬ (r++t).length+1<k:=by rw [List.length_append];omega
   rw [if_neg hk,if_neg h2,List.take_append_of_le_length (by omega)]
theorem Qru (s t:List UInt8) (h:(QbE s).2.2≠4):QbE (s++t)=QbE s:=by
 match s with
 | []=>exact absurd rfl h
 | c::r =>
   rw [List.cons_append];simp only [QbE] at h |-;by_cases h1:c.toNat=0
   ·rw [if_pos h1,if_pos h1]
   rw [if_neg h1] at h |-;rw [if_neg h1];by_cases h2:c.toNat<64
   ·rw [if_pos h2,if_pos h2]
   rw [if_neg h2] at h |-;rw [if_neg h2];by_cases h3:c.toNat<128
   ·rw [if_pos h3] at h |-;rw [if_pos h3];exact QhS _ _ _ _ _ h
   rw [if_neg h3] at h |-;rw [if_neg h3];by_cases h4:c.toNat<192
   ·rw [if_pos h4] at h |-;rw [if_pos h4];exact QhS _ _ _ _ _ h
   rw [if_neg h4] at h |-;rw [if_neg h4];exact QhS _ _ _ _ _ h
theorem Qmj (s t:List UInt8):∀ f i n,n<=i->(QbV s f i n).2≠4->i<=s.length->QbV (s++t) f i n=QbV s f i n
 | 0,i,n,hn,_,hi=>by
   rw [QbV,QbV,List.take_append_of_le_length (by omega)]
 | f+1,i,n,hn,h,hi=>by
   by_cases hl:i<s.length
   ·rw [QfY s f i n hl] at h |-;rw [QfY (s++t) f i n (by rw [List.length_append];omega),List.getElem_append_left hl];cases hs:Qbt s[i].toNat i n with
    | none=>rfl
    | some m =>
      rw [hs] at h;refine Qmj s t f (i+1) m ?_ h (by omega);unfold Qbt at hs
      repeat' split at hs
      all_goals first|(cases hs;omega)|cases hs
   ·rw [QhO s f i n (by omega)] at h;exact absurd rfl h
theorem Qmk (s t:List UInt8) (h:(QbZ s).2≠4):QbZ (s++t)=QbZ s:=Qmj s t 4 0 0 Zc h (Nat.zero_le _)
theorem QkK (s t:List UInt8):∀ n p acc,p<=s.length->(Qbl s n p acc).2.2≠4->Qbl (s++t) n p acc=Qbl s n p acc
 | 0,_,_,_,_=>rfl
 | n+1,p,acc,hp,h=>by
   rw [Qbl] at h |-;rw [Qbl];have hd:(s++t).drop p=s.drop p++t:=List.drop_append_of_le_length hp;rw [hd];by_cases h0:(QbZ (s.drop p)).2=0
   ·rw [Qmk _ t (by omega)];rw [if_pos h0] at h |-;rw [if_pos h0];have h4:=Qmc _ h0;rw [List.length_drop] at h4;exact QkK s t n (p+4) _ (by omega) h
   ·rw [if_neg h0] at h;rw [Qmk _ t h];rw [if_neg h0,if_neg h0]
theorem Qml (l t:List UInt8) (most:Int) (pre:Bool) (h:(Qbi l most pre).2.2≠4):Qbi (l++t) most pre=Qbi l most pre:=by
 match l with
 | []=>exact absurd rfl h
 | c::r =>
   rw [List.cons_append];simp only [Qbi] at h |-
   match r with
   | d::q=>rfl
   | [] =>
     by_cases h1:c.toNat=0
     ·rw [if_pos h1,if_pos h1]
     rw [if_neg h1] at h |-;rw [if_neg h1];by_cases h2:c.toNat=46
     ·rw [if_pos h2,if_pos h2]
     rw [if_neg h2] at h |-;rw [if_neg h2];by_cases h3:c.toNat=47
     ·rw [if_pos h3] at h |-;rw [if_pos h3];by_cases h5:most<3
      ·rw [if_pos h5,if_pos h5]
      ·rw [if_neg h5] at h;exact absurd rfl h
     rw [if_neg h3,if_neg h3]
theorem Qn0 (s t:List UInt8) (root:Bool) (up pos:Nat) (hp:pos<=s.length) (h:(QaC s root up pos).err≠4):QaC (s++t) root up pos=QaC s root up pos:=by
 by_cases h32:32<up
 ·rw [QaC,if_pos h32,QaC,if_pos h32]
 ·have hd:(s++t).drop pos=s.drop pos++t:=List.drop_append_of_le_length hp;obtain ⟨⟨a,b,c⟩,hc⟩:∃ x,Qbi (s.drop pos) (32-up) (decide (0<pos))=x:=⟨_,rfl⟩;obtain ⟨a0,a1,b0,b1,c0⟩:=Qf0 (s.drop pos) (32-up) (decide (0<pos));rw [hc] at a0 a1 b0 b1 c0;rw [List.length_drop] at b1;simp only at a0 a1 b0 b1 c0;by_cases h0:c=0
  ·subst h0;have e1:=Qj4 (root:=root) h32 hc;have e2:=Qj4 (root:=root) (s:=s++t) (pos:=pos) h32 (by rw [hd,Qml _ _ _ _ (by rw [hc];exact (by decide:(0:Int)≠4)),hc]);rw [e1] at h |-;rw [e2];have hg:(Qbl s a.toNat (pos+b.toNat) []).2.2≠4:=by
    intro h4;rw [h4,if_neg (by decide)] at h;exact h rfl
   rw [QkK s t _ _ _ (by omega) hg]
  ·have e1:=Qit (root:=root) h32 hc h0;rw [e1] at h;have h4:c≠4:=fun e=>h (by rw [e]<;>rfl);have e2:=Qit (root:=root) (s:=s++t) (pos:=pos) h32 (by rw [hd,Qml _ _ _ _ (by rw [hc];exact h4),hc]) h0;rw [e1,e2]
theorem Qpz (s t:List UInt8) (h:Qa0 s<s.length):Qa0 (s++t)=Qa0 s:=by
 induction s with
 | nil=>exact absurd h (Nat.lt_irrefl _)
 | cons c r ih =>
   rw [List.cons_append];rw [Qa0] at h |-;rw [Qa0];by_cases hc:c.toNat=94
   ·rw [if_pos hc,List.length_cons] at h;rw [if_pos hc,if_pos hc,ih (by omega)]
   ·rw [if_neg hc,if_neg hc]
theorem Qn1 (s t:List UInt8):Qa0 s<=Qa0 (s++t):=by
 induction s with
 | nil=>exact Nat.zero_le _
 | cons c r ih =>
   rw [List.cons_append,Qa0,Qa0];split<;>omega
theorem QpA (s t:List UInt8) (h:(QaA s).err≠4):QaA (s++t)=QaA s:=by
 match s with
 | []=>exact absurd rfl h
 | c::r =>
   have hr:QbI (c::r++t)=QbI (c::r):=rfl;cases hro:QbI (c::r) with
   | true =>
     have e1:QaA (c::r)=QaC (c::r) true 0 1:=by rw [QaA,hro];rfl
     have e2:QaA (c::r++t)=QaC (c::r++t) true 0 1:=by rw [QaA,hr,hro];rfl
     rw [e1] at h;rw [e1,e2];exact Qn0 _ t _ _ _ (by simp) h
   | false =>
     have e1:QaA (c::r)=QaC (c::r) false (Qa0 (c::r)) (Qa0 (c::r)):=by rw [QaA,hro];rfl
     have e2:QaA (c::r++t)=QaC (c::r++t) false (Qa0 (c::r++t)) (Qa0 (c::r++t)):=by rw [QaA,hr,hro];rfl
     rw [e1] at h;rw [e1,e2];by_cases hl:Qa0 (c::r)<(c::r).length
     ·rw [Qpz _ t hl];exact Qn0 _ t _ _ _ (Qg7 _) h
     ·have hle:=Qg7 (c::r);have he:Qa0 (c::r)=(c::r).length:=by omega
      by_cases h32:32<Qa0 (c::r)
      ·have:=Qn1 (c::r) t;rw [QaC,if_pos (by omega),QaC,if_pos h32]
      ·exfalso;apply h;have hd:(c::r).drop (Qa0 (c::r))=[]:=List.drop_eq_nil_of_le (by omega);rw [Qit (a:=0) (b:=0) (c:=4) h32 (by rw [hd]<;>rfl) (by decide)]<;>rfl
end
end Go.Proofs.YtoohondkpddmcaaGreatDoor
