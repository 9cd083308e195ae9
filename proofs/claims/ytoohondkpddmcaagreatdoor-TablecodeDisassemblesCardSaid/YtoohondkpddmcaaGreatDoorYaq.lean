/- Flen2 Fllen Finca Fenca -/
import Derived.Test.YtoohondkpddmcaaGreatDoorYzz
import Derived.Test.YtoohondkpddmcaaGreatDoorYan
import Derived.Test.YtoohondkpddmcaaGreatDoorYao
import Derived.Test.YtoohondkpddmcaaGreatDoorYap
namespace Go.Proofs.YtoohondkpddmcaaGreatDoor
set_option maxHeartbeats 32000000
set_option linter.unusedVariables false
set_option linter.unusedSimpArgs false
section
open Go.RowKit
attribute [local go_sem] QcV Qc6 ByteArray.mk_append_mk QcE QcF Qi0 Qi1 Qi2
def Qbr (c:UInt8) (r:List UInt8) (k lim:Nat):Int×Nat×Nat :=
 if c.toNat / 16 % 4≠0 then (0,0,3)
 else if r.length+1<k then (0,0,4)
 else if c.toNat % 16+16 * num (r.take (k-1))<lim+1 then (0,0,3)
 else ((c.toNat % 16+16 * num (r.take (k-1)):Nat)-(k:Int),k,0)
def Qbf:List UInt8->Int×Nat×Nat
 | []=>(0,0,4)
 | c::r =>
   if c.toNat=0 then (0,0,3)
   else if c.toNat<64 then ((c.toNat:Int)-1,1,0)
   else if c.toNat<128 then Qbr c r 2 64
   else if c.toNat<192 then Qbr c r 3 4096
   else Qbr c r 4 1048576
def Qkd (x:Int×Nat×Nat):Value:=.tuple #[.int .i64 x.1,.int .i64 x.2.1,.int .i64 x.2.2]
theorem Qbc {x:Int×Nat×Nat} {a b c:Int} (h:x=(a,b.toNat,c.toNat)) (hb:0<=b) (hc:0<=c):Ending.returned (.tuple #[.int .i64 a,.int .i64 b,.int .i64 c]) = .returned (Qkd x):=by
 subst h;simp only [Qkd,Int.toNat_of_nonneg hb,Int.toNat_of_nonneg hc]
theorem Qjc (s:List UInt8) (v:Int) (w:World) (hs:s.length<=8) (HV:Hid (v=(num s:Nat))) :
 Calls Tryz.prog 151 #[.string ⟨s.toArray⟩] w fun e w'=>e = .returned (.int .u64 v)/\w=w':=by rw [HV.out];exact Qi3 s w hs
theorem QdS (s:List UInt8) (v:Int) (w:World) (hs:s.length<=8) (HV:Hid (v=(num s:Nat))) :
 Calls Tryz.prog 210 #[.string ⟨s.toArray⟩] w fun e w'=>e = .returned (.int .u64 v)/\w=w':=by rw [HV.out];exact Qh0 s w hs
theorem Qcf (r:List UInt8) (k:Nat) (h:k<=r.length):num (r.take k)<256 ^ k:=by
 have:=Qhq (r.take k)
 rwa [List.length_take,Nat.min_eq_left h] at this
theorem Qrc {x:Int} (h:(x / 16 % 4 * 16 != 0)=true):x / 16 % 4≠0:=by
 simp only [bne_iff_ne,ne_eq] at h;omega
theorem Qg2 {x:Int} (h:(x / 16 % 4 * 16 != 0)=false):x / 16 % 4=0:=by
 simp only [bne_eq_false_iff_eq] at h;omega
theorem QdT {c:UInt8} {r:List UInt8} {k lim:Nat} (h:((c.toNat:Int) / 16 % 4 * 16 != 0)=true):Qbr c r k lim=(0,0,3):=by
 have:=Qrc h;rw [Qbr,if_pos (by omega)]
theorem Qcn {c:UInt8} {r:List UInt8} {k lim:Nat} (h:((c.toNat:Int) / 16 % 4 * 16 != 0)=false) (hr:(r.length:Int)+1<k):Qbr c r k lim=(0,0,4):=by
 have:=Qg2 h;rw [Qbr,if_neg (by omega),if_pos (by omega)]
theorem QcH {c:UInt8} {r:List UInt8} {k lim:Nat} {v:Int} (h:((c.toNat:Int) / 16 % 4 * 16 != 0)=false) (hr:¬ (r.length:Int)+1<k) (HV:Hid (v=(num (r.take (k-1)):Nat))) (hl:(c.toNat:Int) % 16+v * 16-1<lim):Qbr c r k lim=(0,0,3):=by
 have:=Qg2 h;have:=HV.out;rw [Qbr,if_neg (by omega),if_neg (by omega),if_pos (by omega)]
theorem QfT {c:UInt8} {r:List UInt8} {k lim:Nat} {v:Int} (h:((c.toNat:Int) / 16 % 4 * 16 != 0)=false) (hr:¬ (r.length:Int)+1<k) (HV:Hid (v=(num (r.take (k-1)):Nat))) (hl:¬ (c.toNat:Int) % 16+v * 16-1<lim):Qbr c r k lim=((c.toNat:Int) % 16+v * 16-k,k,0):=by
 have:=Qg2 h;have:=HV.out;rw [Qbr,if_neg (by omega),if_neg (by omega),if_neg (by omega)];simp only [Prod.mk.injEq,and_true];omega
def Qma (k lim:Nat):Prop:=(k=2/\lim=64)\/(k=3/\lim=4096)\/(k=4/\lim=1048576)
theorem Qny {k lim:Nat} (hf:Qma k lim) (n:Int) (h0:0<=n) (h:n+k-1<lim):(Qa3 n).length<k:=by
 unfold Qa3;rcases hf with ⟨rfl,rfl⟩|⟨rfl,rfl⟩|⟨rfl,rfl⟩<;>(repeat' split)<;>first|(exfalso;omega)|(simp [QcX,Qbe];done)
theorem Qjd {k lim:Nat} (hf:Qma k lim) (c:UInt8) (l:List UInt8) (t:Nat) (hl:l.length=k-1) (hc:c.toNat / 64=k-1) (h48:c.toNat / 16 % 4=0) (ht:t=c.toNat % 16+16 * num l):QcX t k=c::l:=by
 have hb:=Qgj l;rw [hl] at hb;have h1:(k-1) * 64+t % 16=c.toNat:=by rcases hf with ⟨rfl,rfl⟩|⟨rfl,rfl⟩|⟨rfl,rfl⟩<;>omega
 have h2:t / 16=num l:=by omega
 rw [QcX,h1,h2,hb];simp
theorem Qh4 {k lim:Nat} (hf:Qma k lim) (n:Int) (h:¬ n+k-1<lim) (h':n+k<16 * 256 ^ (k-1)):Qa3 n=QcX (n+k).toNat k:=by
 unfold Qa3;rcases hf with ⟨rfl,rfl⟩|⟨rfl,rfl⟩|⟨rfl,rfl⟩
 ·rw [if_neg (by omega),if_neg (by omega),if_pos (by omega)];rfl
 ·rw [if_neg (by omega),if_neg (by omega),if_neg (by omega),if_pos (by omega)];rfl
 ·rw [if_neg (by omega),if_neg (by omega),if_neg (by omega),if_neg (by omega),if_pos (by omega)];rfl
theorem Qje {c:UInt8} {r:List UInt8} {k lim:Nat} {v:Int} (hf:Qma k lim) (hc:(c.toNat:Int) / 64=(k:Int)-1) (h:((c.toNat:Int) / 16 % 4 * 16 != 0)=false) (hr:¬ (r.length:Int)+1<k) (HV:Hid (v=(num (r.take (k-1)):Nat)))
  (hk:¬ (c.toNat:Int) % 16+v * 16<k) (b:Bool) (hb:(!Qa3 ((c.toNat:Int) % 16+v * 16-k)==c::r.take (k-1))=b) :
  Qbr c r k lim=if b then (0,0,3) else ((c.toNat:Int) % 16+v * 16-k,k,0):=by
 have h48:=Qg2 h;have hV:=HV.out;have hkk:2<=k/\k<=4:=by rcases hf with ⟨rfl,rfl⟩|⟨rfl,rfl⟩|⟨rfl,rfl⟩<;>omega
 have hl:(r.take (k-1)).length=k-1:=by rw [List.length_take];omega
 by_cases hlow:(c.toNat:Int) % 16+v * 16-1<lim
 ·have h1:=Qny hf ((c.toNat:Int) % 16+v * 16-k) (by omega) (by omega);have hb':b=true:=by
   rw [<- hb];simp only [Bool.not_eq_true',beq_eq_false_iff_ne,ne_eq];intro he;rw [he,List.length_cons,hl] at h1;omega
  rw [QcH h hr HV hlow,if_pos hb']
 ·have hlt:=Qhq (r.take (k-1));rw [hl] at hlt;have hp:(256 ^ (k-1):Int)=((256 ^ (k-1):Nat):Int):=by rw [Int.natCast_pow];rfl
  have h1:=Qh4 hf ((c.toNat:Int) % 16+v * 16-k) (by omega) (by rw [hp];omega);rw [Qjd hf c (r.take (k-1)) _ hl (by omega) (by omega) (by omega)] at h1;have hb':b=false:=by rw [<- hb,h1];simp
  rw [QfT h hr HV hlow,if_neg (by simp [hb'])]
theorem QcN (x:Int):(x / 16 % 4 * 16 != 0)=true\/(x / 16 % 4 * 16 != 0)=false:=by
 cases h:(x / 16 % 4 * 16 != 0)<;>simp
theorem Qhx {c:UInt8} {r:List UInt8} (hz:¬ (c.toNat:Int)<1) (hc:c.toNat<64):Qbf (c::r)=((c.toNat:Int)-1,1,0):=by
 rw [Qbf,if_neg (by omega),if_pos hc]
theorem Qjf {c:UInt8} (hz:¬ (c.toNat:Int)<1) (hc:c.toNat<64):Qa3 ((c.toNat:Int)-1)=[c]:=by
 rw [Qa3,if_neg (by omega),if_pos (by omega),show ((c.toNat:Int)-1+1).toNat=c.toNat by omega];simp
theorem Qjg {c:UInt8} {r:List UInt8} (h1:64<=c.toNat) (h2:c.toNat<128):Qbf (c::r)=Qbr c r 2 64:=by
 rw [Qbf,if_neg (by omega),if_neg (by omega),if_pos h2]
theorem Qjh {c:UInt8} {r:List UInt8} (h1:128<=c.toNat) (h2:c.toNat<192):Qbf (c::r)=Qbr c r 3 4096:=by
 rw [Qbf,if_neg (by omega),if_neg (by omega),if_neg (by omega),if_pos h2]
theorem Qji {c:UInt8} {r:List UInt8} (h1:192<=c.toNat):Qbf (c::r)=Qbr c r 4 1048576:=by
 rw [Qbf,if_neg (by omega),if_neg (by omega),if_neg (by omega),if_neg (by omega)]
set_option maxRecDepth 100000 in
theorem Qrd (c:UInt8) (r:List UInt8) (w:World) (hm:r.length<=9223372036854774000) (h1:64<=c.toNat) (h2:c.toNat<128) :
  Calls Tryz.prog 232 #[.string ⟨(c::r).toArray⟩] w fun e w'=>e = .returned (Qkd (Qbr c r 2 64))/\Below w.heap.size w w':=by
 have hq:(c.toNat:Int) / 64=1:=by omega
 rcases QcN (c.toNat:Int) with h48|h48
 ·go_enter Tryz.func232,Tryz.ntmps232;go_wp2_with fail;go_ret3;go_light;exact ⟨Qbc (QdT h48) (by omega) (by omega),Zb⟩
 ·by_cases hr:(r.length:Int)+1<2
  ·go_enter Tryz.func232,Tryz.ntmps232;go_wp2_with fail;go_ret3;go_light;exact ⟨Qbc (Qcn h48 hr) (by omega) (by omega),Zb⟩
  ·obtain ⟨v,hv⟩:∃ v:Int,v=(num (r.take 1):Nat):=⟨_,rfl⟩;have hlt:=Qcf r 1 (by omega);have hv0:0<=v:=by omega
   have hv1:v<256:=by omega
   have HV:=Za hv;clear hlt hv;have hor:bits .or .i64 ((c.toNat:Int) % 16) (v * 16)=(c.toNat:Int) % 16+v * 16:=QeK _ _ (by omega) (by omega) (by omega) (by omega) (by omega);go_enter Tryz.func232,Tryz.ntmps232;go_wp2_with fail;refine Qau (by kernel_rfl) (by kernel_rfl) ?_
   repeat (go_big_quiet_step ((intro hb;go_at_call 151;exact Calls.grows_of_same hb (Qjc _ v _ (by simp;omega) HV))))
   refine wpQuiet_nil ?_;intro w1 hg;clear hor;go_wp2_with (go_at_call 131;refine (Qos _).mono ?_;rintro e w' ⟨rfl,rfl⟩)
   ·go_ret3;go_light;exact ⟨Qbc (QcH h48 (by omega) HV (by omega)) (by omega) (by omega),hg⟩
   ·go_ret3;go_light;exact ⟨Qbc (QfT h48 (by omega) HV (by omega)) (by omega) (by omega),hg⟩
set_option maxRecDepth 100000 in
theorem Qre (c:UInt8) (r:List UInt8) (w:World) (hm:r.length<=9223372036854774000) (h1:128<=c.toNat) (h2:c.toNat<192) :
  Calls Tryz.prog 232 #[.string ⟨(c::r).toArray⟩] w fun e w'=>e = .returned (Qkd (Qbr c r 3 4096))/\Below w.heap.size w w':=by
 have hq:(c.toNat:Int) / 64=2:=by omega
 rcases QcN (c.toNat:Int) with h48|h48
 ·go_enter Tryz.func232,Tryz.ntmps232;go_wp2_with fail;go_ret3;go_light;exact ⟨Qbc (QdT h48) (by omega) (by omega),Zb⟩
 ·by_cases hr:(r.length:Int)+1<3
  ·go_enter Tryz.func232,Tryz.ntmps232;go_wp2_with fail;go_ret3;go_light;exact ⟨Qbc (Qcn h48 hr) (by omega) (by omega),Zb⟩
  ·obtain ⟨v,hv⟩:∃ v:Int,v=(num (r.take 2):Nat):=⟨_,rfl⟩;have hlt:=Qcf r 2 (by omega);have hv0:0<=v:=by omega
   have hv1:v<65536:=by omega
   have HV:=Za hv;clear hlt hv;have hor:bits .or .i64 ((c.toNat:Int) % 16) (v * 16)=(c.toNat:Int) % 16+v * 16:=QeK _ _ (by omega) (by omega) (by omega) (by omega) (by omega);go_enter Tryz.func232,Tryz.ntmps232;go_wp2_with fail;refine Qau (by kernel_rfl) (by kernel_rfl) ?_
   repeat (go_big_quiet_step ((intro hb;go_at_call 151;exact Calls.grows_of_same hb (Qjc _ v _ (by simp;omega) HV))))
   refine wpQuiet_nil ?_;intro w1 hg;clear hor;go_wp2_with (go_at_call 131;refine (Qot _).mono ?_;rintro e w' ⟨rfl,rfl⟩)
   ·go_ret3;go_light;exact ⟨Qbc (QcH h48 (by omega) HV (by omega)) (by omega) (by omega),hg⟩
   ·go_ret3;go_light;exact ⟨Qbc (QfT h48 (by omega) HV (by omega)) (by omega) (by omega),hg⟩
set_option maxRecDepth 100000 in
theorem Qrf (c:UInt8) (r:List UInt8) (w:World) (hm:r.length<=9223372036854774000) (h1:192<=c.toNat)  :
  Calls Tryz.prog 232 #[.string ⟨(c::r).toArray⟩] w fun e w'=>e = .returned (Qkd (Qbr c r 4 1048576))/\Below w.heap.size w w':=by
 have hq:(c.toNat:Int) / 64=3:=by have hc:=c.toNat_lt;omega
 rcases QcN (c.toNat:Int) with h48|h48
 ·go_enter Tryz.func232,Tryz.ntmps232;go_wp2_with fail;go_ret3;go_light;exact ⟨Qbc (QdT h48) (by omega) (by omega),Zb⟩
 ·by_cases hr:(r.length:Int)+1<4
  ·go_enter Tryz.func232,Tryz.ntmps232;go_wp2_with fail;go_ret3;go_light;exact ⟨Qbc (Qcn h48 hr) (by omega) (by omega),Zb⟩
  ·obtain ⟨v,hv⟩:∃ v:Int,v=(num (r.take 3):Nat):=⟨_,rfl⟩;have hlt:=Qcf r 3 (by omega);have hv0:0<=v:=by omega
   have hv1:v<16777216:=by omega
   have HV:=Za hv;clear hlt hv;have hor:bits .or .i64 ((c.toNat:Int) % 16) (v * 16)=(c.toNat:Int) % 16+v * 16:=QeK _ _ (by omega) (by omega) (by omega) (by omega) (by omega);go_enter Tryz.func232,Tryz.ntmps232;go_wp2_with fail;refine Qau (by kernel_rfl) (by kernel_rfl) ?_
   repeat (go_big_quiet_step ((intro hb;go_at_call 151;exact Calls.grows_of_same hb (Qjc _ v _ (by simp;omega) HV))))
   refine wpQuiet_nil ?_;intro w1 hg;clear hor;go_wp2_with (go_at_call 131;refine (Qou _).mono ?_;rintro e w' ⟨rfl,rfl⟩)
   ·go_ret3;go_light;exact ⟨Qbc (QcH h48 (by omega) HV (by omega)) (by omega) (by omega),hg⟩
   ·go_ret3;go_light;exact ⟨Qbc (QfT h48 (by omega) HV (by omega)) (by omega) (by omega),hg⟩
set_option maxRecDepth 100000 in
theorem Qlq (c:UInt8) (r:List UInt8) (w:World) (hm:r.length<=9223372036854774000) (h1:64<=c.toNat) (h2:c.toNat<128) :
  Calls Tryz.prog 234 #[.string ⟨(c::r).toArray⟩] w fun e w'=>e = .returned (Qkd (Qbr c r 2 64))/\Below w.heap.size w w':=by
 have hq:(c.toNat:Int) / 64=1:=by omega
 rcases QcN (c.toNat:Int) with h48|h48
 ·go_enter Tryz.func234,Tryz.ntmps234;go_wp2_with fail;go_ret3;go_light;exact ⟨Qbc (QdT h48) (by omega) (by omega),Zb⟩
 ·by_cases hr:(r.length:Int)+1<2
  ·go_enter Tryz.func234,Tryz.ntmps234;go_wp2_with fail;go_ret3;go_light;exact ⟨Qbc (Qcn h48 hr) (by omega) (by omega),Zb⟩
  ·obtain ⟨v,hv⟩:∃ v:Int,v=(num (r.take 1):Nat):=⟨_,rfl⟩;have hlt:=Qcf r 1 (by omega);have hv0:0<=v:=by omega
   have hv1:v<256:=by omega
   have HV:=Za hv;clear hlt hv;have hor:bits .or .i64 ((c.toNat:Int) % 16) (v * 16)=(c.toNat:Int) % 16+v * 16:=QeK _ _ (by omega) (by omega) (by omega) (by omega) (by omega);by_cases hk:(c.toNat:Int) % 16+v * 16<2
   ·go_enter Tryz.func234,Tryz.ntmps234;go_wp2_with fail;refine Qau (by kernel_rfl) (by kernel_rfl) ?_
    repeat (go_big_quiet_step ((intro hb;go_at_call 210;exact Calls.grows_of_same hb (QdS _ v _ (by simp;omega) HV))))
    refine wpQuiet_nil ?_;intro w1 hg;clear hor;go_wp2_with fail;refine Qau (by kernel_rfl) (by kernel_rfl) ?_
    repeat (go_big_quiet_step ((intro hb;go_at_call 93;exact Calls.grows_of hb (QbF _ _ (by omega) (by omega)))))
    refine wpQuiet_nil ?_;intro w2 hg2;go_wp2_with fail;go_ret3;go_light;exact ⟨Qbc (QcH h48 (by omega) HV (by omega)) (by omega) (by omega),Grows.trans hg hg2⟩
   ·have hd:decide ((c.toNat:Int) % 16+v * 16<2)=false:=by simpa using hk
    go_enter Tryz.func234,Tryz.ntmps234;go_wp2_with fail;refine Qau (by kernel_rfl) (by kernel_rfl) ?_
    repeat (go_big_quiet_step ((intro hb;go_at_call 210;exact Calls.grows_of_same hb (QdS _ v _ (by simp;omega) HV))))
    refine wpQuiet_nil ?_;intro w1 hg;clear hor;go_wp2_with fail;refine Qau (by kernel_rfl) (by kernel_rfl) ?_
    repeat (go_big_quiet_step ((intro hb;go_at_call 93;exact Calls.grows_of hb (QbF _ _ (by omega) (by omega)))))
    refine wpQuiet_nil ?_;intro w2 hg2;go_wp2_with fail
    all_goals
     go_ret3;go_light;exact ⟨Qbc (Eq.trans (Qje (by first|exact .inl ⟨rfl,rfl⟩|exact .inr (.inl ⟨rfl,rfl⟩)|exact .inr (.inr ⟨rfl,rfl⟩)) (by omega) h48 (by omega) HV (by omega) _ ‹_›) rfl) (by omega) (by omega),Grows.trans hg hg2⟩
set_option maxRecDepth 100000 in
theorem Qlr (c:UInt8) (r:List UInt8) (w:World) (hm:r.length<=9223372036854774000) (h1:128<=c.toNat) (h2:c.toNat<192) :
  Calls Tryz.prog 234 #[.string ⟨(c::r).toArray⟩] w fun e w'=>e = .returned (Qkd (Qbr c r 3 4096))/\Below w.heap.size w w':=by
 have hq:(c.toNat:Int) / 64=2:=by omega
 rcases QcN (c.toNat:Int) with h48|h48
 ·go_enter Tryz.func234,Tryz.ntmps234;go_wp2_with fail;go_ret3;go_light;exact ⟨Qbc (QdT h48) (by omega) (by omega),Zb⟩
 ·by_cases hr:(r.length:Int)+1<3
  ·go_enter Tryz.func234,Tryz.ntmps234;go_wp2_with fail;go_ret3;go_light;exact ⟨Qbc (Qcn h48 hr) (by omega) (by omega),Zb⟩
  ·obtain ⟨v,hv⟩:∃ v:Int,v=(num (r.take 2):Nat):=⟨_,rfl⟩;have hlt:=Qcf r 2 (by omega);have hv0:0<=v:=by omega
   have hv1:v<65536:=by omega
   have HV:=Za hv;clear hlt hv;have hor:bits .or .i64 ((c.toNat:Int) % 16) (v * 16)=(c.toNat:Int) % 16+v * 16:=QeK _ _ (by omega) (by omega) (by omega) (by omega) (by omega);by_cases hk:(c.toNat:Int) % 16+v * 16<3
   ·go_enter Tryz.func234,Tryz.ntmps234;go_wp2_with fail;refine Qau (by kernel_rfl) (by kernel_rfl) ?_
    repeat (go_big_quiet_step ((intro hb;go_at_call 210;exact Calls.grows_of_same hb (QdS _ v _ (by simp;omega) HV))))
    refine wpQuiet_nil ?_;intro w1 hg;clear hor;go_wp2_with fail;refine Qau (by kernel_rfl) (by kernel_rfl) ?_
    repeat (go_big_quiet_step ((intro hb;go_at_call 93;exact Calls.grows_of hb (QbF _ _ (by omega) (by omega)))))
    refine wpQuiet_nil ?_;intro w2 hg2;go_wp2_with fail;go_ret3;go_light;exact ⟨Qbc (QcH h48 (by omega) HV (by omega)) (by omega) (by omega),Grows.trans hg hg2⟩
   ·have hd:decide ((c.toNat:Int) % 16+v * 16<3)=false:=by simpa using hk
    go_enter Tryz.func234,Tryz.ntmps234;go_wp2_with fail;refine Qau (by kernel_rfl) (by kernel_rfl) ?_
    repeat (go_big_quiet_step ((intro hb;go_at_call 210;exact Calls.grows_of_same hb (QdS _ v _ (by simp;omega) HV))))
    refine wpQuiet_nil ?_;intro w1 hg;clear hor;go_wp2_with fail;refine Qau (by kernel_rfl) (by kernel_rfl) ?_
    repeat (go_big_quiet_step ((intro hb;go_at_call 93;exact Calls.grows_of hb (QbF _ _ (by omega) (by omega)))))
    refine wpQuiet_nil ?_;intro w2 hg2;go_wp2_with fail
    all_goals
     go_ret3;go_light;exact ⟨Qbc (Eq.trans (Qje (by first|exact .inl ⟨rfl,rfl⟩|exact .inr (.inl ⟨rfl,rfl⟩)|exact .inr (.inr ⟨rfl,rfl⟩)) (by omega) h48 (by omega) HV (by omega) _ ‹_›) rfl) (by omega) (by omega),Grows.trans hg hg2⟩
set_option maxRecDepth 100000 in
theorem Qls (c:UInt8) (r:List UInt8) (w:World) (hm:r.length<=9223372036854774000) (h1:192<=c.toNat)  :
  Calls Tryz.prog 234 #[.string ⟨(c::r).toArray⟩] w fun e w'=>e = .returned (Qkd (Qbr c r 4 1048576))/\Below w.heap.size w w':=by
 have hq:(c.toNat:Int) / 64=3:=by have hc:=c.toNat_lt;omega
 rcases QcN (c.toNat:Int) with h48|h48
 ·go_enter Tryz.func234,Tryz.ntmps234;go_wp2_with fail;go_ret3;go_light;exact ⟨Qbc (QdT h48) (by omega) (by omega),Zb⟩
 ·by_cases hr:(r.length:Int)+1<4
  ·go_enter Tryz.func234,Tryz.ntmps234;go_wp2_with fail;go_ret3;go_light;exact ⟨Qbc (Qcn h48 hr) (by omega) (by omega),Zb⟩
  ·obtain ⟨v,hv⟩:∃ v:Int,v=(num (r.take 3):Nat):=⟨_,rfl⟩;have hlt:=Qcf r 3 (by omega);have hv0:0<=v:=by omega
   have hv1:v<16777216:=by omega
   have HV:=Za hv;clear hlt hv;have hor:bits .or .i64 ((c.toNat:Int) % 16) (v * 16)=(c.toNat:Int) % 16+v * 16:=QeK _ _ (by omega) (by omega) (by omega) (by omega) (by omega);by_cases hk:(c.toNat:Int) % 16+v * 16<4
   ·go_enter Tryz.func234,Tryz.ntmps234;go_wp2_with fail;refine Qau (by kernel_rfl) (by kernel_rfl) ?_
    repeat (go_big_quiet_step ((intro hb;go_at_call 210;exact Calls.grows_of_same hb (QdS _ v _ (by simp;omega) HV))))
    refine wpQuiet_nil ?_;intro w1 hg;clear hor;go_wp2_with fail;refine Qau (by kernel_rfl) (by kernel_rfl) ?_
    repeat (go_big_quiet_step ((intro hb;go_at_call 93;exact Calls.grows_of hb (QbF _ _ (by omega) (by omega)))))
    refine wpQuiet_nil ?_;intro w2 hg2;go_wp2_with fail;go_ret3;go_light;exact ⟨Qbc (QcH h48 (by omega) HV (by omega)) (by omega) (by omega),Grows.trans hg hg2⟩
   ·have hd:decide ((c.toNat:Int) % 16+v * 16<4)=false:=by simpa using hk
    go_enter Tryz.func234,Tryz.ntmps234;go_wp2_with fail;refine Qau (by kernel_rfl) (by kernel_rfl) ?_
    repeat (go_big_quiet_step ((intro hb;go_at_call 210;exact Calls.grows_of_same hb (QdS _ v _ (by simp;omega) HV))))
    refine wpQuiet_nil ?_;intro w1 hg;clear hor;go_wp2_with fail;refine Qau (by kernel_rfl) (by kernel_rfl) ?_
    repeat (go_big_quiet_step ((intro hb;go_at_call 93;exact Calls.grows_of hb (QbF _ _ (by omega) (by omega)))))
    refine wpQuiet_nil ?_;intro w2 hg2;go_wp2_with fail
    all_goals
     go_ret3;go_light;exact ⟨Qbc (Eq.trans (Qje (by first|exact .inl ⟨rfl,rfl⟩|exact .inr (.inl ⟨rfl,rfl⟩)|exact .inr (.inr ⟨rfl,rfl⟩)) (by omega) h48 (by omega) HV (by omega) _ ‹_›) rfl) (by omega) (by omega),Grows.trans hg hg2⟩
theorem Qnz (s:List UInt8) (w:World) (hm:s.length<=9223372036854774000) :
  Calls Tryz.prog 232 #[.string ⟨s.toArray⟩] w fun e w'=>e = .returned (Qkd (Qbf s))/\Below w.heap.size w w':=by
 match s,hm with
 | [],hm =>
   go_enter Tryz.func232,Tryz.ntmps232;go_wp2_with fail;go_ret3;exact ⟨rfl,Zb⟩
 | c::r,hm =>
   simp only [List.length_cons] at hm;by_cases hc:c.toNat<64
   ·have hq:(c.toNat:Int) / 64=0:=by omega
    by_cases hz:c=0
    ·subst hz;go_enter Tryz.func232,Tryz.ntmps232;go_wp2_with fail;go_ret3;exact ⟨rfl,Zb⟩
    have hz:¬ (c.toNat:Int)<1:=by
     intro h;apply hz;apply UInt8.toNat_inj.1;simpa using (by omega:c.toNat=0)
    have hz':((c.toNat:Int)==0)=false:=by simp only [beq_eq_false_iff_ne,ne_eq];omega
    go_enter Tryz.func232,Tryz.ntmps232;go_wp2_with fail;go_ret3;go_light;exact ⟨Qbc (Qhx (by omega) hc) (by omega) (by omega),Zb⟩
   ·by_cases h2:c.toNat<128
    ·rw [Qjg (by omega) h2];exact Qrd c r w (by omega) (by omega) h2
    ·by_cases h3:c.toNat<192
     ·rw [Qjh (by omega) h3];exact Qre c r w (by omega) (by omega) h3
     ·rw [Qji (by omega)];exact Qrf c r w (by omega) (by omega)
theorem Qd1 (s:List UInt8) (w:World) (hm:s.length<=9223372036854774000) :
  Calls Tryz.prog 234 #[.string ⟨s.toArray⟩] w fun e w'=>e = .returned (Qkd (Qbf s))/\Below w.heap.size w w':=by
 match s,hm with
 | [],hm =>
   go_enter Tryz.func234,Tryz.ntmps234;go_wp2_with fail;go_ret3;exact ⟨rfl,Zb⟩
 | c::r,hm =>
   simp only [List.length_cons] at hm;by_cases hc:c.toNat<64
   ·have hq:(c.toNat:Int) / 64=0:=by omega
    by_cases hz:c=0
    ·subst hz;go_enter Tryz.func234,Tryz.ntmps234;go_wp2_with fail;go_ret3;exact ⟨rfl,Zb⟩
    have hz:¬ (c.toNat:Int)<1:=by
     intro h;apply hz;apply UInt8.toNat_inj.1;simpa using (by omega:c.toNat=0)
    have hz':((c.toNat:Int)==0)=false:=by simp only [beq_eq_false_iff_ne,ne_eq];omega
    have hd:decide ((c.toNat:Int)<1)=false:=by simpa using hz
    have hmod:(c.toNat:Int) % 64=c.toNat:=by omega
    have hb0:(c.toNat:Int)<=63:=by omega
    go_enter Tryz.func234,Tryz.ntmps234;go_wp2_with fail;refine Qau (by kernel_rfl) (by kernel_rfl) ?_
    repeat (go_big_quiet_step ((intro hb;go_at_call 93;exact Calls.grows_of hb (QbF _ _ (by omega) (by omega)))))
    refine wpQuiet_nil ?_;intro w2 hg2;rw [Qjf (c:=c) (by omega) hc];simp only [beq_self_eq_true,Bool.not_true];go_wp2_with fail;go_ret3;go_light;exact ⟨Qbc (Qhx (by omega) hc) (by omega) (by omega),hg2⟩
   ·by_cases h2:c.toNat<128
    ·rw [Qjg (by omega) h2];exact Qlq c r w (by omega) (by omega) h2
    ·by_cases h3:c.toNat<192
     ·rw [Qjh (by omega) h3];exact Qlr c r w (by omega) (by omega) h3
     ·rw [Qji (by omega)];exact Qls c r w (by omega) (by omega)
end
section
open Go.RowKit
attribute [local go_sem] QcV Qc6 ByteArray.mk_append_mk QcE QcF
theorem Qgo (n:Int):(Qa3 n).length<=4:=by
 unfold Qa3
 repeat' split
 all_goals simp [QcX,Qbe]
end
section
open Go.RowKit
end
section
open Go.RowKit
theorem QoA {x:List UInt8} (h1:1<=x.length) (h4:x.length<=4):(Qf1 x).length=4:=by
 unfold Qf1;rw [List.length_append,List.length_take];simp;omega
end
end Go.Proofs.YtoohondkpddmcaaGreatDoor
