/- Nsv -/
import Derived.Test.YtoohondkpddmcaaGreatDoorYzz
import Derived.Test.YtoohondkpddmcaaGreatDoorYaa
import Derived.Test.YtoohondkpddmcaaGreatDoorYah
namespace Go.Proofs.YtoohondkpddmcaaGreatDoor
set_option maxHeartbeats 32000000
set_option linter.unusedVariables false
set_option linter.unusedSimpArgs false
open Go.RowKit
attribute [local go_sem] ByteArray.mk_append_mk Qah Qai Qag
def Qng (c:UInt8):Bool:=decide ((65<=c.toNat/\c.toNat<=90)\/c.toNat=95)
def QiN (c:UInt8):Bool:=decide ((65<=c.toNat/\c.toNat<=90)\/c.toNat=95\/(48<=c.toNat/\c.toNat<=57))
theorem QlT (c:UInt8) (r:List UInt8):QaV (c::r)=(decide (r.length<=3)&&Qng c&&r.all QiN):=by
 have e1:∀ x:UInt8,(idB x&&!Qbx x)=QiN x:=by
  intro x;unfold idB QaC Qa7 Qbx QiN;rw [Bool.eq_iff_iff];simp only [Bool.and_eq_true,Bool.or_eq_true,decide_eq_true_eq,Bool.not_eq_true',decide_eq_false_iff_not];omega
 have e2:∀ x:UInt8,(QaC x&&(idB x&&!Qbx x))=Qng x:=by
  intro x;unfold idB QaC Qa7 Qbx Qng;rw [Bool.eq_iff_iff];simp only [Bool.and_eq_true,Bool.or_eq_true,decide_eq_true_eq,Bool.not_eq_true',decide_eq_false_iff_not];omega
 have e3:∀ l:List UInt8,(l.all idB&&!Qb8 l)=l.all QiN:=by
  intro l;induction l with
  | nil=>rfl
  | cons x t ih =>
    unfold Qb8 at ih |-;rw [List.all_cons,List.any_cons,List.all_cons,<- ih,<- e1];cases idB x<;>cases Qbx x<;>cases t.all idB<;>cases t.any Qbx<;>rfl
 rw [QaV];have h:=e3 r;unfold Qb8 at h |-;rw [List.all_cons,List.any_cons,<- h,<- e2 c];cases idB c<;>cases Qbx c<;>cases QaC c<;>cases r.all idB<;>cases r.any Qbx<;>simp
def Qin (c k:Nat):Prop:=(65<=c/\c<=90)\/c=95\/((48<=c/\c<=57)/\0<k)
theorem QlU (s:List UInt8) (h1:1<=s.length) (h4:s.length<=4) (h:∀ k (hk:k<s.length),Qin s[k].toNat k):QaV s=true:=by
 match s,h1 with
 | c::r,_ =>
   rw [List.length_cons] at h4;have h0:=h 0 (by simp);unfold Qin at h0;simp only [List.getElem_cons_zero] at h0;rw [QlT,decide_eq_true (by omega),show Qng c=true by unfold Qng;rw [decide_eq_true_eq];omega];simp only [Bool.true_and,List.all_eq_true];intro x hx;obtain ⟨i,hi,rfl⟩:=List.mem_iff_getElem.1 hx;have h2:=h (i+1) (by simp;omega);unfold Qin at h2;simp only [List.getElem_cons_succ] at h2;unfold QiN;rw [decide_eq_true_eq];omega
theorem QqR (s:List UInt8) (k:Nat) (hk:k<s.length) (h:¬ Qin s[k].toNat k):QaV s=false:=by
 match s,hk with
 | c::r,hk =>
   rw [QlT];unfold Qin at h
   match k,hk with
   | 0,_ =>
     simp only [List.getElem_cons_zero] at h;rw [show Qng c=false by unfold Qng;rw [decide_eq_false_iff_not];omega];simp
   | k+1,hk =>
     simp only [List.getElem_cons_succ] at h;have:r.all QiN=false:=by
      rw [List.all_eq_false];refine ⟨r[k]'(by simpa using hk),List.getElem_mem _,?_⟩;unfold QiN;rw [decide_eq_true_eq];omega
     rw [this];simp
theorem QgS (s:List UInt8) (h:s.length<1\/4<s.length):QaV s=false:=by
 match s with
 | []=>rfl
 | c::r=>rw [List.length_cons] at h;exact Qkm (by omega)
theorem Qcj {s:List UInt8} (h:QaV s=true):1<=s.length/\s.length<=4:=by
 by_cases h1:s.length<1\/4<s.length
 ·rw [QgS s h1] at h;cases h
 ·omega
theorem Qj9 (s:List UInt8) (w:World) (hs:s.length<=9223372036854775000) :
  Calls Tryz.prog 228 #[.string ⟨s.toArray⟩] w fun e w'=>e = .returned (.bool (QaV s))/\w=w':=by
 by_cases h1:s.length<1
 ·have HR:=Za (QgS s (.inl h1));have h1':(s.length:Int)<1:=by omega
  go_enter Tryz.func228,Tryz.ntmps228;go_wp2_with fail;go_ret;exact ⟨by rw [HR.out];rfl,rfl⟩
 ·have h1':¬ (s.length:Int)<1:=by omega
  by_cases h4:4<s.length
  ·have HR:=Za (QgS s (.inr h4));have h4':(4:Int)<s.length:=by omega
   go_enter Tryz.func228,Tryz.ntmps228;go_wp2_with fail;go_ret;exact ⟨by rw [HR.out];rfl,rfl⟩
  ·have h4':¬ (4:Int)<s.length:=by omega
   go_enter Tryz.func228,Tryz.ntmps228;go_wp2_with fail;go_loop [16] (fun i=>∃ k:Nat,i = .int .i64 k/\k<=s.length/\Hid (∀ j (hj:j<s.length),j<k->Qin s[j].toNat j)) (fun i=>s.length-(intOf i).toNat)
   case atStart=>exact ⟨0,rfl,Nat.zero_le _,Za (fun j _ h=>absurd h (by omega))⟩
   case round =>
    obtain ⟨k,rfl,hk,HO⟩:=hrel;by_cases hl:k<s.length
    ·have HN:Hid (¬ Qin s[k].toNat k->QaV s=false):=Za (QqR s k hl);have HY:Hid (Qin s[k].toNat k->∀ j (hj:j<s.length),j<k+1->Qin s[j].toNat j):=Za (fun h j hj hlt=>by
      rcases Nat.lt_or_ge j k with h0|h0
      ·exact HO.out j hj h0
      ·obtain rfl:j=k:=by omega
       exact h)
     clear HO;have hc:=s[k].toNat_lt;unfold Qin at HN;generalize hcc:s[k].toNat=c at *;have hgi:s[k]?=some s[k]:=List.getElem?_eq_getElem hl;have HCC:=Za hcc;by_cases hk0:0<k
     ·have hk0':(0:Int)<k:=by omega
      go_wp2_with fail
      all_goals first
       | (go_ret
          exact ⟨by rw [HN.out (by omega)];rfl,rfl⟩)
       | (go_round
          case measure=>simp [intOf];omega
          case rel =>
           first
            | exact ⟨k+1,by go_num,by omega,Za (HY.out (by unfold Qin;omega))⟩
            | (exfalso;simp_all;done)
            | (exfalso;simp_all;omega))
     ·have hk0':¬ (0:Int)<k:=by omega
      go_wp2_with fail
      all_goals first
       | (go_ret
          exact ⟨by rw [HN.out (by omega)];rfl,rfl⟩)
       | (go_round
          case measure=>simp [intOf];omega
          case rel =>
           first
            | exact ⟨k+1,by go_num,by omega,Za (HY.out (by unfold Qin;omega))⟩
            | (exfalso;simp_all;done)
            | (exfalso;simp_all;omega))
    ·have HR:Hid (QaV s=true):=Za (QlU s (by omega) (by omega) (fun j hj=>HO.out j hj (by omega)));go_wp2_with fail;go_ret;exact ⟨by rw [HR.out];rfl,rfl⟩
theorem QgT (s:List UInt8) (b:Bool) (H:Hid (QaV s=b)) (w:World) (hs:s.length<=9223372036854775000) :
  Calls Tryz.prog 228 #[.string ⟨s.toArray⟩] w fun e w'=>e = .returned (.bool b)/\w=w' :=
 (Qj9 s w hs).mono fun _ _ ⟨he,hw⟩=>⟨by rw [he,H.out],hw⟩
def Qfs (root:Bool) (up:Int) (n:Nat):Bool:=decide (0<=up/\up<=32/\(root=true->up=0)/\(n:Int)<=32-up/\(root=true\/0<up\/0<n))
def QaI (root:Bool) (up:Int) (l:List (List UInt8)):Bool:=Qfs root up l.length&&l.all QaV
theorem QcD {root:Bool} {up:Int} {l:List (List UInt8)} (h:Qfs root up l.length=false):QaI root up l=false:=by unfold QaI;rw [h];rfl
theorem QiO {root:Bool} {up:Int} {l:List (List UInt8)} (k:Nat) (hk:k<l.length) (h:QaV l[k]=false):QaI root up l=false:=by
 unfold QaI;have:l.all QaV=false:=by rw [List.all_eq_false];exact ⟨l[k],List.getElem_mem hk,by rw [h];decide⟩
 rw [this,Bool.and_false]
theorem Qe5 {root:Bool} {up:Int} {l:List (List UInt8)} (h:Qfs root up l.length=true) (h2:∀ k (hk:k<l.length),QaV l[k]=true):QaI root up l=true:=by
 unfold QaI;rw [h,Bool.true_and,List.all_eq_true];intro x hx;obtain ⟨i,hi,rfl⟩:=List.mem_iff_getElem.1 hx;exact h2 i hi
theorem Qcz {root:Bool} {up:Int} {n:Nat} (h:up<0\/32<up\/(root=true/\¬ up=0)\/32-up<n\/(root=false/\up<=0/\n=0)):Qfs root up n=false:=by
 unfold Qfs;rw [decide_eq_false_iff_not];rintro ⟨a,b,c,d,e⟩;rcases h with h|h|⟨h1,h2⟩|h|⟨h1,h2,h3⟩
 ·omega
 ·omega
 ·exact h2 (c h1)
 ·omega
 ·rcases e with e|e|e
  ·rw [h1] at e;cases e
  ·omega
  ·omega
theorem QeG {root:Bool} {up:Int} {n:Nat} (h:0<=up/\up<=32/\(root=true->up=0)/\(n:Int)<=32-up/\(root=true\/0<up\/0<n)):Qfs root up n=true:=by unfold Qfs;exact decide_eq_true h
theorem Qiv {w:World} {a:Option Addr} {n cap:Nat} {l:List (List UInt8)} (h:StrsAt w (.slice a n cap) l) (k:Nat) (hk:k<l.length):∃ b off,a=some ⟨b,off,none⟩/\w.cell? ⟨b,off+k,none⟩=some (.string ⟨l[k].toArray⟩):=by
 obtain ⟨a',cap',he,_,_,hc⟩:=h;cases he;have hne:l≠[]:=by rintro rfl;simp at hk
 obtain ⟨b,off,rfl,hcc⟩:=hc hne;exact ⟨b,off,rfl,hcc k hk⟩
theorem Qf5 (p:Value) (root:Bool) (up:Int) (l:List (List UInt8)) (w:World) (hp:PathV w p root up l) (hx:∀ x∈l,x.length<=9223372036854775000) :
  Calls Tryz.prog 134 #[p] w fun e w'=>e = .returned (.bool (QaI root up l))/\Below w.heap.size w w':=by
 obtain ⟨v,rfl,hs⟩:=hp;have HB:Hid (BoxAt w (w.alloc (.cells #[.bool root,.int .i64 up,v] 128)) root up v l):=Za (BoxAt.start hs);obtain ⟨a,cap,rfl,hl,_⟩:=hs;have HX:=Za hx;clear hx;obtain ⟨p0,p1,p2⟩:=QaT HB.out.1;go_enter Tryz.func134,Tryz.ntmps134;go_upto_region 1 with fail;go_cut [45] (fun z wx=>z = .bool (!Qfs root up l.length)/\w.alloc (.cells #[.bool root,.int .i64 up,.slice a l.length cap] 128)=wx)
 case first =>
  by_cases c1:up<0
  ·have HP:=Za (Qcz (root:=root) (up:=up) (n:=l.length) (.inl c1));go_wp2_with fail;go_meet;exact ⟨by rw [HP.out];rfl,rfl⟩
  ·by_cases c2:32<up
   ·have HP:=Za (Qcz (root:=root) (up:=up) (n:=l.length) (.inr (.inl c2)));go_wp2_with fail;go_meet;exact ⟨by rw [HP.out];rfl,rfl⟩
   ·cases root
    ·by_cases c4:32-up<l.length
     ·have HP:=Za (Qcz (root:=false) (up:=up) (n:=l.length) (.inr (.inr (.inr (.inl c4)))));go_wp2_with fail;go_meet;exact ⟨by rw [HP.out];rfl,rfl⟩
     ·by_cases c5:up=0
      ·have c5':(up==0)=true:=by rw [beq_iff_eq];exact c5
       by_cases c6:l.length=0
       ·have HP:=Za (Qcz (root:=false) (up:=up) (n:=l.length) (.inr (.inr (.inr (.inr ⟨rfl,by omega,c6⟩)))));have c6':((l.length:Int)==0)=true:=by rw [beq_iff_eq];omega
        clear c5 c6;go_wp2_with fail;go_meet;exact ⟨by rw [HP.out];rfl,rfl⟩
       ·have HP:=Za (QeG (root:=false) (up:=up) (n:=l.length) ⟨by omega,by omega,(fun h=>by cases h),by omega,.inr (.inr (by omega))⟩);have c6':((l.length:Int)==0)=false:=by rw [beq_eq_false_iff_ne];omega
        clear c5 c6;go_wp2_with fail;go_meet;exact ⟨by rw [HP.out];rfl,rfl⟩
      ·have c5':(up==0)=false:=by rw [beq_eq_false_iff_ne];exact c5
       have HP:=Za (QeG (root:=false) (up:=up) (n:=l.length) ⟨by omega,by omega,(fun h=>by cases h),by omega,.inr (.inl (by omega))⟩);clear c5;go_wp2_with fail;go_meet;exact ⟨by rw [HP.out];rfl,rfl⟩
    ·by_cases c3:0<up
     ·have HP:=Za (Qcz (root:=true) (up:=up) (n:=l.length) (.inr (.inr (.inl ⟨rfl,by omega⟩))));go_wp2_with fail;go_meet;exact ⟨by rw [HP.out];rfl,rfl⟩
     ·by_cases c4:32-up<l.length
      ·have HP:=Za (Qcz (root:=true) (up:=up) (n:=l.length) (.inr (.inr (.inr (.inl c4)))));go_wp2_with fail;go_meet;exact ⟨by rw [HP.out];rfl,rfl⟩
      ·have HP:=Za (QeG (root:=true) (up:=up) (n:=l.length) ⟨by omega,by omega,(fun _=>by omega),by omega,.inl rfl⟩);go_wp2_with fail;go_meet;exact ⟨by rw [HP.out];rfl,rfl⟩
 case rest =>
  obtain ⟨rfl,rfl⟩:=hcut;by_cases hpre:Qfs root up l.length=true
  ·have HPR:=Za hpre;rw [show (!Qfs root up l.length)=false by rw [hpre];rfl];clear hpre;go_wp2_with fail;go_loop [3] (fun i=>∃ k:Nat,i = .int .i64 k/\k<=l.length/\Hid (∀ j (hj:j<l.length),j<k->QaV l[j]=true)) (fun i=>l.length-(intOf i).toNat)
   case atStart=>exact ⟨0,rfl,Nat.zero_le _,Za (fun j _ h=>absurd h (by omega))⟩
   case round =>
    obtain ⟨k,rfl,hk,HO⟩:=hrel;by_cases hlt:k<l.length
    ·obtain ⟨b,off,rfl,hcell⟩:=Qiv HB.out.2.1 k hlt;have hxl:=HX.out _ (List.getElem_mem hlt);have hlt':(k:Int)<l.length:=by omega
     by_cases hsg:QaV l[k]=true
     ·have HO2:Hid (∀ j (hj:j<l.length),j<k+1->QaV l[j]=true):=Za (fun j hj h=>by
       rcases Nat.lt_or_ge j k with h0|h0
       ·exact HO.out j hj h0
       ·obtain rfl:j=k:=by omega
        exact hsg)
      have HSG:=Za hsg;clear hsg;generalize l[k]=x at *;go_wp2_with fail;((with_reducible refine (QcJ x true HSG _ hxl).mono ?_));rintro e w' ⟨rfl,rfl⟩;go_wp2_with fail;go_round
      case rel=>first|exact ⟨k+1,by go_num,by omega,HO2⟩|((repeat apply Exists.intro);exact ⟨⟨k+1,by go_num,by omega,HO2⟩,rfl⟩)
      case measure=>simp [intOf];omega
     ·have HR:Hid (QaI root up l=false):=Za (QiO k hlt (by simpa using hsg));have HSG:Hid (QaV l[k]=false):=Za (by simpa using hsg);clear hsg;generalize l[k]=x at *;go_wp2_with fail;((with_reducible refine (QcJ x false HSG _ hxl).mono ?_));rintro e w' ⟨rfl,rfl⟩;go_wp2_with fail;go_ret;exact ⟨by rw [HR.out];rfl,HB.out.2.2⟩
    ·have hlt':¬ (k:Int)<l.length:=by omega
     have HR:Hid (QaI root up l=true):=Za (Qe5 HPR.out (fun j hj=>HO.out j hj (by omega)));go_wp2_with fail;go_ret;exact ⟨by rw [HR.out];rfl,HB.out.2.2⟩
  ·have hpre':Qfs root up l.length=false:=by simpa using hpre
   have HR:=Za (QcD hpre');rw [show (!Qfs root up l.length)=true by rw [hpre'];rfl];clear hpre hpre';go_wp2_with fail;go_ret;exact ⟨by rw [HR.out];rfl,HB.out.2.2⟩
theorem Qdp (p:Value) (root:Bool) (up:Int) (l:List (List UInt8)) (w:World) (hp:PathV w p root up l) (hx:∀ x∈l,x.length<=9223372036854775000) :
  Calls Tryz.prog 187 #[p] w fun e w'=>e = .returned (.bool (QaI root up l))/\Below w.heap.size w w':=by
 obtain ⟨v,rfl,hs⟩:=hp;have HB:Hid (BoxAt w (w.alloc (.cells #[.bool root,.int .i64 up,v] 128)) root up v l):=Za (BoxAt.start hs);obtain ⟨a,cap,rfl,hl,_⟩:=hs;have HX:=Za hx;clear hx;obtain ⟨p0,p1,p2⟩:=QaT HB.out.1;by_cases c1:up<0
 ·have HR:=Za (QcD (l:=l) (Qcz (root:=root) (up:=up) (n:=l.length) (.inl c1)));go_enter Tryz.func187,Tryz.ntmps187;go_wp2_with fail;go_ret;exact ⟨by rw [HR.out];rfl,HB.out.2.2⟩
 ·by_cases c2:root=true/\¬ up=0
  ·obtain ⟨rfl,c2⟩:=c2;have HR:=Za (QcD (l:=l) (Qcz (root:=true) (up:=up) (n:=l.length) (.inr (.inr (.inl ⟨rfl,c2⟩)))));have c2':(up != 0)=true:=by rw [bne_iff_ne];exact c2
   clear c2;go_enter Tryz.func187,Tryz.ntmps187;go_wp2_with fail;go_ret;exact ⟨by rw [HR.out];rfl,HB.out.2.2⟩
  ·go_enter Tryz.func187,Tryz.ntmps187;go_upto_region 1 with fail;go_cut [16] (fun z wx=>z = .bool false/\w.alloc (.cells #[.bool root,.int .i64 up,.slice a l.length cap] 128)=wx)
   case first =>
    cases root
    ·go_wp2_with fail;go_meet;exact ⟨rfl,rfl⟩
    ·have c2':(up != 0)=false:=by
      rw [bne_eq_false_iff_eq];exact Classical.byContradiction fun h=>c2 ⟨rfl,h⟩
     clear c2;go_wp2_with fail;go_meet;exact ⟨rfl,rfl⟩
   case rest =>
    obtain ⟨rfl,rfl⟩:=hcut;have HC2:=Za c2;clear c2;by_cases c3:32<up
    ·have HR:=Za (QcD (l:=l) (Qcz (root:=root) (up:=up) (n:=l.length) (.inr (.inl c3))));go_wp2_with fail;go_ret;exact ⟨by rw [HR.out];rfl,HB.out.2.2⟩
    ·by_cases c4:32-up<l.length
     ·have HR:=Za (QcD (l:=l) (Qcz (root:=root) (up:=up) (n:=l.length) (.inr (.inr (.inr (.inl c4))))));go_wp2_with fail;go_ret;exact ⟨by rw [HR.out];rfl,HB.out.2.2⟩
     ·go_wp2_with fail;go_loop [32] (fun i=>∃ k:Nat,i = .int .i64 k/\k<=l.length/\Hid (∀ j (hj:j<l.length),j<k->QaV l[j]=true)) (fun i=>l.length-(intOf i).toNat)
      case atStart=>exact ⟨0,rfl,Nat.zero_le _,Za (fun j _ h=>absurd h (by omega))⟩
      case round =>
       obtain ⟨k,rfl,hk,HO⟩:=hrel;by_cases hlt:k<l.length
       ·obtain ⟨b,off,rfl,hcell⟩:=Qiv HB.out.2.1 k hlt;have hxl:=HX.out _ (List.getElem_mem hlt);have hlt':(k:Int)<l.length:=by omega
        by_cases hsg:QaV l[k]=true
        ·have HO2:Hid (∀ j (hj:j<l.length),j<k+1->QaV l[j]=true):=Za (fun j hj h=>by
          rcases Nat.lt_or_ge j k with h0|h0
          ·exact HO.out j hj h0
          ·obtain rfl:j=k:=by omega
           exact hsg)
         have HSG:=Za hsg;clear hsg;generalize l[k]=x at *;go_wp2_with fail;((with_reducible refine (QgT x true HSG _ hxl).mono ?_));rintro e w' ⟨rfl,rfl⟩;go_wp2_with fail;go_round
         case rel=>first|exact ⟨k+1,by go_num,by omega,HO2⟩|((repeat apply Exists.intro);exact ⟨⟨k+1,by go_num,by omega,HO2⟩,rfl⟩)
         case measure=>simp [intOf];omega
        ·have HR:Hid (QaI root up l=false):=Za (QiO k hlt (by simpa using hsg));have HSG:Hid (QaV l[k]=false):=Za (by simpa using hsg);clear hsg;generalize l[k]=x at *;go_wp2_with fail;((with_reducible refine (QgT x false HSG _ hxl).mono ?_));rintro e w' ⟨rfl,rfl⟩;go_wp2_with fail;go_ret;exact ⟨by rw [HR.out];rfl,HB.out.2.2⟩
       ·have hlt':¬ (k:Int)<l.length:=by omega
        have HA:Hid (∀ j (hj:j<l.length),QaV l[j]=true):=Za (fun j hj=>HO.out j hj (by omega));clear HO;cases root
        ·by_cases c5:0<up
         ·have HR:Hid (QaI false up l=true):=Za (Qe5 (QeG ⟨by omega,by omega,(fun h=>by cases h),by omega,.inr (.inl c5)⟩) HA.out);go_wp2_with fail;go_ret;exact ⟨by rw [HR.out];rfl,HB.out.2.2⟩
         ·by_cases c6:0<l.length
          ·have HR:Hid (QaI false up l=true):=Za (Qe5 (QeG ⟨by omega,by omega,(fun h=>by cases h),by omega,.inr (.inr c6)⟩) HA.out);have c6':(0:Int)<l.length:=by omega
           go_wp2_with fail;go_ret;exact ⟨by rw [HR.out];rfl,HB.out.2.2⟩
          ·have HR:Hid (QaI false up l=false):=Za (QcD (Qcz (.inr (.inr (.inr (.inr ⟨rfl,by omega,by omega⟩))))));have c6':¬ (0:Int)<l.length:=by omega
           go_wp2_with fail;go_ret;exact ⟨by rw [HR.out];rfl,HB.out.2.2⟩
        ·have HR:Hid (QaI true up l=true):=Za (Qe5 (QeG ⟨by omega,by omega,(fun _=>Classical.byContradiction fun h=>HC2.out ⟨rfl,h⟩),by omega,.inl rfl⟩) HA.out);go_wp2_with fail;go_ret;exact ⟨by rw [HR.out];rfl,HB.out.2.2⟩
end Go.Proofs.YtoohondkpddmcaaGreatDoor
