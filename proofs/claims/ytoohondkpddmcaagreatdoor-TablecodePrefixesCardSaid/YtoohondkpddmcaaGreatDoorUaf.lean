/- Tkk Tkl Tkm Tkn -/
import Derived.Test.YtoohondkpddmcaaGreatDoorUzz
import Derived.Test.YtoohondkpddmcaaGreatDoorUad
import Derived.Test.YtoohondkpddmcaaGreatDoorUae
namespace Go.Proofs.YtoohondkpddmcaaGreatDoor
set_option maxHeartbeats 32000000
set_option linter.unusedVariables false
set_option linter.unusedSimpArgs false
section
open Go.RowKit
attribute [local go_sem] ByteArray.mk_append_mk Qac Qad Qae Qsu
def Qie (o:Option (List UInt8×List UInt8)) (n:Nat):Value:=match o with
 | some (v,r)=>.tuple #[.string ⟨v.toArray⟩,.int .i64 ((n-r.length:Nat):Int)]
 | none=>.tuple #[.string ⟨#[]⟩,.int .i64 (-1)]
theorem QwS (a b:Nat) (ha:a<16) (hb:b<16):bits .or .i64 ((a:Int) * 16) (b:Int)=((a * 16+b:Nat):Int):=by
 have:∀ a:Fin 16,∀ b:Fin 16,bits .or .i64 (((a:Nat):Int) * 16) ((b:Nat):Int)=(((a:Nat) * 16+(b:Nat):Nat):Int):=by decide +kernel
 exact this ⟨a,ha⟩ ⟨b,hb⟩
theorem QqZ (w:World) (x:Int):Sem.run Tryz.prog (convert 48 9 (.slice (some ⟨w.heap.size,0,none⟩) 1 1)) (w.alloc (.cells #[.int .u8 x] 5)).drew = .ok (.string ⟨[UInt8.ofNat x.toNat].toArray⟩) (w.alloc (.cells #[.int .u8 x] 5)).drew:=by
 rw [run_convert_bytes_string _ 48 9 5 _ _ _ Tryz.underlying48 Tryz.underlying5 Tryz.underlying9];rw [run_bytesToString _ _ 1 1 [x] (by simp [loadCells,go_sem])]<;>rfl
attribute [local go_sem] QqZ
theorem Qsv (s:List UInt8) (k:Nat) (h:k<s.length) (i:Int) (hi:i=k) (w:World):(Instr.index 9 (.string ⟨s.toArray⟩) (.int .i64 i)).run Tryz.prog w = .ok (.int .u8 s[k].toNat) w:=by
 subst hi;rw [run_index_string _ _ _ _ _ Tryz.underlying9,dif_pos ⟨by omega,by rw [ByteArray.size_mk',List.size_toArray];omega⟩]<;>rfl
theorem Qq0 {s l:List UInt8} {p:Nat} (h:p<s.length) (hc:s[p]=92) (h1:p+1<s.length) (h2:s[p+1]=34\/s[p+1]=92):Qbp (s.drop p) l=Qbp (s.drop (p+2)) (l++[s[p+1]]):=by
 rw [Qh9 h,hc,List.drop_eq_getElem_cons h1,QgC];rcases h2 with h2|h2<;>rw [h2]<;>rfl
theorem Qsw {s l:List UInt8} {p:Nat} (h:p<s.length) (hc:s[p]=92) (h3:p+3<s.length) (h2:s[p+1]=120) {a b:Nat} (ha:QcM s[p+2]=some a) (hb:QcM s[p+3]=some b):Qbp (s.drop p) l=Qbp (s.drop (p+4)) (l++[UInt8.ofNat (a * 16+b)]):=by
 rw [Qh9 h,hc,List.drop_eq_getElem_cons (i:=p+1) (by omega),List.drop_eq_getElem_cons (i:=p+1+1) (by omega),List.drop_eq_getElem_cons (i:=p+1+1+1) (by omega),QgC,h2,Qnz];rw [show s[p+1+1]=s[p+2] from rfl,show s[p+1+1+1]=s[p+3] from rfl,ha,hb]<;>rfl
theorem Qq1 {s l:List UInt8} {p:Nat} (h:p<s.length) (hc:s[p]=92) (h1:∀ h1:p+1<s.length,s[p+1]≠34/\s[p+1]≠92)
  (h2:∀ h3:p+3<s.length,s[p+1]=120->QcM s[p+2]=none\/QcM s[p+3]=none):Qbp (s.drop p) l=none:=by
 rw [Qh9 h,hc,QgC];by_cases k1:p+1<s.length
 ·obtain ⟨n1,n2⟩:=h1 k1;rw [List.drop_eq_getElem_cons k1];by_cases k2:s[p+1]=120
  ·rw [k2];by_cases k3:p+3<s.length
   ·rw [List.drop_eq_getElem_cons (i:=p+1+1) (by omega),List.drop_eq_getElem_cons (i:=p+1+1+1) (by omega),Qnz];rw [show s[p+1+1]=s[p+2] from rfl,show s[p+1+1+1]=s[p+3] from rfl];rcases h2 k3 k2 with e|e
    ·rw [e];rfl
    ·rw [e];cases QcM s[p+2]<;>rfl
   ·rw [Qo0 (by rw [List.length_drop];omega)];rfl
  ·rw [QoZ n1 n2 k2];rfl
 ·rw [List.drop_eq_nil_of_le (by omega)];rfl
set_option maxRecDepth 100000 in
theorem Qq2 (s:List UInt8) (p0:Nat) (w:World) (hs:s.length<=4611686018427380000) (h1:p0<s.length) :
  Calls Tryz.prog 199 #[.string ⟨s.toArray⟩,.int .i64 p0] w fun e w'=>e = .returned (Qie (Qbp (s.drop (p0+1)) []) s.length)/\Below w.heap.size w w':=by
 obtain ⟨X,hX⟩:∃ X,Hid (Qbp (s.drop (p0+1)) []=X):=⟨_,Za rfl⟩;rw [hX.out];go_enter Tryz.func199,Tryz.ntmps199;go_wp2_with fail;go_loopw [1,6] (fun i v wr=>∃ (p:Nat) (l:List UInt8),i = .int .i64 p/\v = .string ⟨l.toArray⟩/\p<=s.length/\l.length<=p/\Hid (X=Qbp (s.drop p) l)/\Hid (Below w.heap.size w wr)) (fun i _ _=>s.length-(intOf i).toNat)
 case atStart=>exact ⟨p0+1,[],by go_num,rfl,by omega,by simp,Za hX.out.symm,Za Zb⟩
 case round =>
  obtain ⟨p,l,rfl,rfl,hp,hl,HX,HB⟩:=hrel;obtain ⟨w1,rfl⟩:∃ x:World,x=wr:=⟨_,rfl⟩;by_cases hlt:p<s.length
  ·have HT:=Za (Qh9 hlt l);have H34:=Za (QaX s[p] 34 34 rfl);have H92:=Za (QaX s[p] 92 92 rfl);have HC:=Za (fun (h1:s[p]≠34) (h2:s[p]≠92)=>(Qjo (r:=s.drop (p+1)) (v:=l) h1 h2));rcases H34.out with ⟨e1,h34⟩|⟨e1,h34⟩
   ·have HX2:Hid (X=if 255<l.length then none else some (l,s.drop (p+1))):=Za (by rw [HX.out,HT.out,e1,Qjp]);clear e1 H34 H92 HC HT;by_cases h255:(255:Int)<(l.length:Int)
    ·go_wp2_with fail;refine bodyPost_ret (results_tmp2 rfl _ _ _) rfl ?_;exact ⟨by rw [HX2.out,if_pos (by omega)];rfl,HB.out⟩
    ·go_wp2_with fail;refine bodyPost_ret (results_tmp2 rfl _ _ _) rfl ?_;refine ⟨?_,HB.out⟩;rw [HX2.out,if_neg (by omega)];unfold Qie;simp only [List.length_drop];rw [show s.length-(s.length-(p+1))=p+1 by omega]<;>rfl
   rcases H92.out with ⟨e2,h92⟩|⟨e2,h92⟩
   ·have hge:(32:Int)<=(s[p].toNat:Int):=by rw [e2];decide
    have hle:(s[p].toNat:Int)<=126:=by rw [e2];decide
    have hne:((s[p].toNat:Int) != 92)=false:=by rw [bne,h92];rfl
    obtain ⟨b1,hb1⟩:∃ b1:Bool,Hid (b1=decide (∃ h:p+1<s.length,s[p+1]=34\/s[p+1]=92)):=⟨_,Za rfl⟩;have HP:Hid (b1=true->∀ h:p+1<s.length,X=Qbp (s.drop (p+2)) (l++[s[p+1]])):=Za (fun h h'=>by
     rw [hb1.out,decide_eq_true_eq] at h;obtain ⟨_,h⟩:=h;rw [HX.out];exact Qq0 hlt e2 h' h)
    have HH:Hid (∀ h3:p+3<s.length,s[p+1]=120->∀ a b,QcM s[p+2]=some a->QcM s[p+3]=some b->X=Qbp (s.drop (p+4)) (l++[UInt8.ofNat (a * 16+b)])):=Za (fun h3 h4 a b ha hb=>by
     rw [HX.out];exact Qsw hlt e2 h3 h4 ha hb)
    have HN:Hid (b1=false->(∀ h3:p+3<s.length,s[p+1]=120->QcM s[p+2]=none\/QcM s[p+3]=none)->X=none):=Za (fun h h3=>by
     rw [hb1.out,decide_eq_false_iff_not] at h;rw [HX.out];exact Qq1 hlt e2 (fun h'=>⟨fun e=>h ⟨h',.inl e⟩,fun e=>h ⟨h',.inr e⟩⟩) h3)
    have hb2:Hid (b1=true->p+1<s.length):=Za (fun h=>by
     rw [hb1.out,decide_eq_true_eq] at h;exact h.1)
    clear e1 e2 H34 H92 HC HT HX;go_upto_region 15 with fail;go_cut [43] (fun z wx=>z = .bool b1/\w1=wx)
    case first =>
     by_cases k1:(p:Int)+1<(s.length:Int)
     ·have k1':p+1<s.length:=by omega
      have J34:=Za (QaX s[p+1] 34 34 rfl);have J92:=Za (QaX s[p+1] 92 92 rfl);rcases J34.out with ⟨g1,g34⟩|⟨g1,g34⟩
      ·have hb:Hid (b1=true):=Za (by rw [hb1.out,decide_eq_true_eq];exact ⟨k1',.inl g1⟩);clear g1;go_wp2_with fail;go_meet;exact ⟨by rw [hb.out],rfl⟩
      ·rcases J92.out with ⟨g2,g92⟩|⟨g2,g92⟩
       ·have hb:Hid (b1=true):=Za (by rw [hb1.out,decide_eq_true_eq];exact ⟨k1',.inr g2⟩);clear g1 g2;go_wp2_with fail;go_meet;exact ⟨by rw [hb.out],rfl⟩
       ·have hb:Hid (b1=false):=Za (by rw [hb1.out,decide_eq_false_iff_not];rintro ⟨_,h|h⟩;exact g1 h;exact g2 h);clear g1 g2;go_wp2_with fail;go_meet;exact ⟨by rw [hb.out],rfl⟩
     ·have hb:Hid (b1=false):=Za (by rw [hb1.out,decide_eq_false_iff_not];rintro ⟨h,_⟩;omega);go_wp2_with fail;go_meet;exact ⟨by rw [hb.out],rfl⟩
    case rest =>
     obtain ⟨rfl,rfl⟩:=hcut;clear hb1;cases b1
     ·have HN2:=Za (HN.out rfl);clear HN HP hb2;obtain ⟨o2,ho2⟩:∃ o:Nat->Option Nat,Hid (∀ h:p+2<s.length,QcM s[p+2]=o 0):=⟨fun _=>if h:p+2<s.length then QcM s[p+2] else none,Za fun h=>by rw [dif_pos h]⟩;obtain ⟨o3,ho3⟩:∃ o:Nat->Option Nat,Hid (∀ h:p+3<s.length,QcM s[p+3]=o 0):=⟨fun _=>if h:p+3<s.length then QcM s[p+3] else none,Za fun h=>by rw [dif_pos h]⟩;obtain ⟨q2,hq2⟩:∃ q,o2 0=q:=⟨_,rfl⟩;obtain ⟨q3,hq3⟩:∃ q,o3 0=q:=⟨_,rfl⟩;rw [hq2] at ho2;rw [hq3] at ho3;clear hq2 hq3 o2 o3;obtain ⟨b2,hb2⟩:∃ b2:Bool,Hid (b2=decide (∃ h:p+3<s.length,s[p+1]=120/\q2.isSome=true/\q3.isSome=true)):=⟨_,Za rfl⟩;go_upto_region 18 with fail;go_cut [72] (fun z wx=>z = .bool b2/\w1=wx)
      case first =>
       by_cases k3:(p:Int)+3<(s.length:Int)
       ·have k3':p+3<s.length:=by omega
        have k2':p+2<s.length:=by omega
        have k1':p+1<s.length:=by omega
        have J120:=Za (QaX s[p+1] 120 120 rfl);have K2:=Za (QgA s[p+2] w1);have K3:=Za (QgA s[p+3] w1);rcases J120.out with ⟨g1,g120⟩|⟨g1,g120⟩
        ·have hb:Hid (b2=(q2.isSome&&q3.isSome)):=Za (by
          rw [hb2.out,Bool.eq_iff_iff,decide_eq_true_eq,Bool.and_eq_true];exact ⟨fun ⟨_,_,h⟩=>h,fun h=>⟨k3',g1,h⟩⟩)
         clear g1;cases q2 with
         | none =>
           rw [QiP (ho2.out k2')] at K2;go_wp2_with fail;((with_reducible refine K2.out.mono ?_));rintro e w2 ⟨rfl,rfl⟩;go_wp2_with fail;go_meet;exact ⟨by rw [hb.out];rfl,rfl⟩
         | some x =>
           rw [Qfe (ho2.out k2')] at K2;cases q3 with
           | none =>
             rw [QiP (ho3.out k3')] at K3;go_wp2_with fail;((with_reducible refine K2.out.mono ?_));rintro e w2 ⟨rfl,rfl⟩;go_wp2_with fail;((with_reducible refine K3.out.mono ?_));rintro e w2 ⟨rfl,rfl⟩;go_wp2_with fail;go_meet;exact ⟨by rw [hb.out];rfl,rfl⟩
           | some y =>
             rw [Qfe (ho3.out k3')] at K3;go_wp2_with fail;((with_reducible refine K2.out.mono ?_));rintro e w2 ⟨rfl,rfl⟩;go_wp2_with fail;((with_reducible refine K3.out.mono ?_));rintro e w2 ⟨rfl,rfl⟩;go_wp2_with fail;go_meet;exact ⟨by rw [hb.out];rfl,rfl⟩
        ·have hb:Hid (b2=false):=Za (by rw [hb2.out,decide_eq_false_iff_not];rintro ⟨_,h,_⟩;exact g1 h);clear g1;go_wp2_with fail;go_meet;exact ⟨by rw [hb.out],rfl⟩
       ·have hb:Hid (b2=false):=Za (by rw [hb2.out,decide_eq_false_iff_not];rintro ⟨h,_⟩;omega);go_wp2_with fail;go_meet;exact ⟨by rw [hb.out],rfl⟩
      case rest =>
       obtain ⟨rfl,rfl⟩:=hcut;cases b2
       ·have HX2:Hid (X=none):=Za (HN2.out fun h3 h4=>by
         have:=hb2.out;rw [eq_comm,decide_eq_false_iff_not] at this;rw [ho2.out (by omega),ho3.out h3];cases q2 with
         | none=>exact .inl rfl
         | some x=>cases q3 with
           | none=>exact .inr rfl
           | some y=>exact absurd ⟨h3,h4,rfl,rfl⟩ this)
        clear HN2 HH hb2 ho2 ho3;go_wp2_with fail;refine bodyPost_ret (results_tmp2 rfl _ _ _) rfl ?_;exact ⟨by rw [HX2.out];rfl,HB.out⟩
       ·obtain ⟨k3',g1,g2,g3⟩:∃ h:p+3<s.length,s[p+1]=120/\q2.isSome=true/\q3.isSome=true:=by
         have:=hb2.out;rw [eq_comm,decide_eq_true_eq] at this;exact this
        cases q2 with
        | none=>cases g2
        | some x =>
          cases q3 with
          | none=>cases g3
          | some y =>
            have k2':p+2<s.length:=by omega
            have HX2:=Za (HH.out k3' g1 x y (ho2.out k2') (ho3.out k3'));have hx:=QmT (ho2.out k2');have hy:=QmT (ho3.out k3');have K2:=Za (QgA s[p+2]);rw [Qfe (ho2.out k2')] at K2;have K3:=Za (QgA s[p+3]);rw [Qfe (ho3.out k3')] at K3;have hor:=QwS x y hx hy;have hlim:x * 16+y<256:=by omega
            have i2:=Qsv s (p+2) k2' ((p:Int)+2) (by omega);have i3:=Qsv s (p+3) k3' ((p:Int)+3) (by omega);clear HN2 HH hb2 ho2 ho3 g1 g2 g3;go_upto_region 19 with fail;refine QaI (Grows _) 17 [.reads [0,1,2,3,4,7,8,9,10],.act 5,.reads [6],.act 11,.reads [12,13],.act 14,.act 15,.act 16,.act 17] (by kernel_rfl) (by kernel_rfl) (by kernel_rfl) (by kernel_rfl) (by kernel_rfl) (fun _ _ d _ _ h=>by cases d<;>exact h) (Grows.self _) ?_;refine Qas ?_;simp only [Qaf,pQ1,pQ2,pQ3,pQ4,pQ5,pQ6]
            repeat (go_big_quiet_step (fail))
            refine wpQuiet_nil ?_;refine Qai rfl ?_;simp only [Qaf,pQ1,pQ2,pQ3,pQ4,pQ5,pQ6];go_wp2_with fail;((with_reducible refine (K2.out _).mono ?_));rintro e w2 ⟨rfl,rfl⟩;go_wp2_with fail;refine ⟨fun _=>(Grows.self _),?_⟩;refine Qas ?_;simp only [Qaf,pQ1,pQ2,pQ3,pQ4,pQ5,pQ6]
            repeat (go_big_quiet_step (fail))
            refine wpQuiet_nil ?_;refine Qai rfl ?_;simp only [Qaf,pQ1,pQ2,pQ3,pQ4,pQ5,pQ6];go_wp2_with fail;((with_reducible refine (K3.out _).mono ?_));rintro e w2 ⟨rfl,rfl⟩;go_wp2_with fail;refine ⟨fun _=>(Grows.self _),?_⟩;refine Qas ?_;simp only [Qaf,pQ1,pQ2,pQ3,pQ4,pQ5,pQ6]
            repeat (go_big_quiet_step (fail))
            refine wpQuiet_nil ?_;have HG:=Za ((Grows.self w1).trans (Zb.alloc Zc (.cells #[.int .u8 ((x:Int) * 16+y)] 5)));refine Qai rfl ?_;simp only [Qaf,pQ1,pQ2,pQ3,pQ4,pQ5,pQ6];go_wp2_with fail;refine ⟨fun _=>HG.out,?_⟩;refine Qai rfl ?_;simp only [Qaf,pQ1,pQ2,pQ3,pQ4,pQ5,pQ6];go_wp2_with fail;refine ⟨fun _=>HG.out,?_⟩;refine Qai rfl ?_;simp only [Qaf,pQ1,pQ2,pQ3,pQ4,pQ5,pQ6];go_wp2_with fail;refine ⟨fun _=>HG.out,?_⟩;refine Qai rfl ?_;simp only [Qaf,pQ1,pQ2,pQ3,pQ4,pQ5,pQ6];go_wp2_with fail;refine ⟨fun h=>absurd h (by decide),?_⟩;refine Qbb ?_;go_wp2_with fail;go_roundw
            case rel=>exact ⟨p+4,l++[UInt8.ofNat (x * 16+y)],by go_num,by simp,by omega,by rw [List.length_append];simp;omega,HX2,Za (HB.out.trans (HG.out.mono HB.out.size))⟩
            case measure=>simp [intOf];omega
     ·have k1':=hb2.out rfl;have HX2:=Za (HP.out rfl k1');clear HN HP HH hb2;go_wp2_with fail;go_roundw
      case rel=>exact ⟨p+2,l++[s[p+1]],by go_num,by simp,by omega,by rw [List.length_append];simp;omega,HX2,Za (HB.out.alloc HB.out.size _)⟩
      case measure=>simp [intOf];omega
   ·have HX2:=Za (HC.out e1 e2);have hne:((s[p].toNat:Int) != 92)=true:=by rw [bne,h92];rfl
    clear e1 e2 H34 H92 HC;have hc:=s[p].toNat_lt;by_cases h3:(32:Int)<=(s[p].toNat:Int)
    ·by_cases h4:(s[p].toNat:Int)<=126
     ·have HX3:Hid (X=Qbp (s.drop (p+1)) (l++[s[p]])):=Za (by rw [HX.out,HT.out,HX2.out,if_pos (by omega)]);clear HT HX HX2;go_wp2_with fail;go_roundw
      case rel=>exact ⟨p+1,l++[s[p]],by go_num,by simp,by omega,by rw [List.length_append];simp;omega,HX3,Za (HB.out.alloc HB.out.size _)⟩
      case measure=>simp [intOf];omega
     ·have HX3:Hid (X=none):=Za (by rw [HX.out,HT.out,HX2.out,if_neg (by omega)]);clear HT HX HX2;go_wp2_with fail;refine bodyPost_ret (results_tmp2 rfl _ _ _) rfl ?_;exact ⟨by rw [HX3.out];rfl,HB.out⟩
    ·have HX3:Hid (X=none):=Za (by rw [HX.out,HT.out,HX2.out,if_neg (by omega)]);clear HT HX HX2;go_wp2_with fail;refine bodyPost_ret (results_tmp2 rfl _ _ _) rfl ?_;exact ⟨by rw [HX3.out];rfl,HB.out⟩
  ·have HX3:Hid (X=none):=Za (by rw [HX.out];exact QqX (by omega));clear HX;go_wp2_with fail;refine bodyPost_ret (results_tmp2 rfl _ _ _) rfl ?_;exact ⟨by rw [HX3.out];rfl,HB.out⟩
end
section
open Go.RowKit
attribute [local go_sem] ByteArray.mk_append_mk Qac Qad Qae
theorem Qq3 {c:UInt8} (h:QfM c=true):((c.toNat:Int)==32)=true\/(((c.toNat:Int)==32)=false/\((c.toNat:Int)==9)=true)\/(((c.toNat:Int)==32)=false/\((c.toNat:Int)==9)=false/\((c.toNat:Int)==13)=true)\/(((c.toNat:Int)==32)=false/\((c.toNat:Int)==9)=false/\((c.toNat:Int)==13)=false/\((c.toNat:Int)==10)=true):=by
 unfold QfM at h;simp only [Bool.or_eq_true,beq_iff_eq] at h;rcases h with ((rfl|rfl)|rfl)|rfl
 ·left;rfl
 ·right;left;exact ⟨rfl,rfl⟩
 ·right;right;left;exact ⟨rfl,rfl,rfl⟩
 ·right;right;right;exact ⟨rfl,rfl,rfl,rfl⟩
theorem Qsx {c:UInt8} (h:QfM c=false):((c.toNat:Int)==32)=false/\((c.toNat:Int)==9)=false/\((c.toNat:Int)==13)=false/\((c.toNat:Int)==10)=false:=by
 unfold QfM at h;simp only [Bool.or_eq_false_iff,beq_eq_false_iff_ne] at h;obtain ⟨⟨⟨h1,h2⟩,h3⟩,h4⟩:=h;refine ⟨?_,?_,?_,?_⟩
 ·exact ((QaX c 32 32 rfl).resolve_left fun h=>h1 h.1).2
 ·exact ((QaX c 9 9 rfl).resolve_left fun h=>h2 h.1).2
 ·exact ((QaX c 13 13 rfl).resolve_left fun h=>h3 h.1).2
 ·exact ((QaX c 10 10 rfl).resolve_left fun h=>h4 h.1).2
theorem pre2 {c a b:UInt8} {t:List UInt8} (h:Lib.hasPrefix (c::t) [a,b]=true):c=a/\∃ r,t=b::r:=by
 cases t with
 | nil=>simp [Lib.hasPrefix,List.isPrefixOf] at h
 | cons d r =>
   simp [Lib.hasPrefix,List.isPrefixOf] at h;exact ⟨h.1.symm,r,by rw [<- h.2]⟩
def QfR (n:Nat) (x:List UInt8×Bool):Value:=.tuple #[.int .i64 ((n-x.1.length:Nat):Int),.bool x.2]
end
section
open Go.RowKit
attribute [local go_sem] ByteArray.mk_append_mk Qac Qad Qae
theorem Quj {s:List UInt8} {q:Nat} (h:q<s.length):(s.drop q).dropWhile (· != 10)=if s[q]=10 then s.drop q else (s.drop (q+1)).dropWhile (· != 10):=by
 rw [List.drop_eq_getElem_cons h,List.dropWhile_cons];by_cases e:s[q]=10
 ·rw [if_pos e,if_neg (by rw [e];decide)]
 ·rw [if_neg e,if_pos (by rw [bne,Zd e]<;>rfl)]
theorem QnA {s:List UInt8} (h:s.length<=1):QbU s=none:=by
 match s,h with
 | [],_=>rfl
 | [a],_ =>
   rw [QbU]
   ·rfl
   ·intro r h1 h2;cases h2
theorem Qsy {s:List UInt8} {q:Nat} (h:q+1<s.length):QbU (s.drop q)=if s[q]=42/\s[q+1]=47 then some (s.drop (q+2)) else QbU (s.drop (q+1)):=by
 rw [List.drop_eq_getElem_cons (i:=q) (by omega),List.drop_eq_getElem_cons (i:=q+1) h];by_cases e:s[q]=42/\s[q+1]=47
 ·rw [if_pos e,e.1,e.2,QbU]
 ·rw [if_neg e,QbU];intro r h1 h2;injection h2 with h2 _;exact e ⟨h1,h2⟩
theorem QmZ {s:List UInt8} {p:Nat} (h:p+1<s.length) (h1:s[p]=47) (h2:s[p+1]=47):Qa3 (s.drop p)=Qa3 ((s.drop p).dropWhile (· != 10)):=by
 rw [List.drop_eq_getElem_cons (i:=p) (by omega),List.drop_eq_getElem_cons (i:=p+1) h,h1,h2,QoR]
theorem QlH {s:List UInt8} {p:Nat} (h:p+1<s.length) (h1:s[p]=47) (h2:s[p+1]=42):Qa3 (s.drop p)=match QbU (s.drop (p+2)) with
  | some t=>Qa3 t
  | none=>(s.drop p,false):=by
 rw [List.drop_eq_getElem_cons (i:=p) (by omega),List.drop_eq_getElem_cons (i:=p+1) h,h1,h2];split
 ·next t ht=>exact Qnw ht
 ·next ht=>exact QoS ht
theorem QfS {s:List UInt8} {p:Nat} (h:p<s.length) (hb:QfM s[p]=false) (h2:∀ k:p+1<s.length,s[p]=47->s[p+1]≠47/\s[p+1]≠42):Qa3 (s.drop p)=(s.drop p,true):=by
 rw [List.drop_eq_getElem_cons h];refine QoT hb fun e t=>?_;by_cases k:p+1<s.length
 ·obtain ⟨n1,n2⟩:=h2 k e;rw [List.drop_eq_getElem_cons k];exact ⟨fun h=>by injection h with h _;exact n1 h,fun h=>by injection h with h _;exact n2 h⟩
 ·rw [List.drop_eq_nil_of_le (by omega)];exact ⟨fun h=>(by cases h),fun h=>(by cases h)⟩
def Qm0 (o:Option (List UInt8)) (d:List UInt8):List UInt8×Bool:=match o with
 | some t=>Qa3 t
 | none=>(d,false)
set_option maxRecDepth 100000 in
theorem Qq4 (s:List UInt8) (p0:Nat) (w:World) (hs:s.length<=9223372036854770000) (h0:p0<=s.length) :
  Calls Tryz.prog 136 #[.string ⟨s.toArray⟩,.int .i64 p0] w fun e w'=>e = .returned (QfR s.length (Qa3 (s.drop p0)))/\w=w':=by
 obtain ⟨X,hX⟩:∃ X,Hid (Qa3 (s.drop p0)=X):=⟨_,Za rfl⟩;rw [hX.out];go_enter Tryz.func136,Tryz.ntmps136;go_wp2_with fail;go_loop [1] (fun i=>∃ p:Nat,i = .int .i64 p/\p<=s.length/\Hid (X=Qa3 (s.drop p))) (fun i=>s.length-(intOf i).toNat)
 case atStart=>exact ⟨p0,rfl,h0,Za hX.out.symm⟩
 case round =>
  obtain ⟨p,rfl,hp,HX⟩:=hrel;by_cases hlt:p<s.length
  ·have hdl:s.length-(s.drop p).length=p:=by rw [List.length_drop];omega
   have HDL:=Za hdl;clear hdl;cases hb:QfM s[p]
   ·have HB:=Za hb;obtain ⟨b1,b2,b3,b4⟩:=Qsx hb;clear hb;have H47:=Za (QaX s[p] 47 47 rfl);rcases H47.out with ⟨e1,h47⟩|⟨e1,h47⟩
    ·by_cases hl2:(p:Int)+1<(s.length:Int)
     ·have hl2':p+1<s.length:=by omega
      have J47:=Za (QaX s[p+1] 47 47 rfl);have J42:=Za (QaX s[p+1] 42 42 rfl);rcases J47.out with ⟨g1,g47⟩|⟨g1,g47⟩
      ·have HX2:Hid (X=Qa3 ((s.drop p).dropWhile (· != 10))):=Za (by rw [HX.out];exact QmZ hl2' e1 g1);have HNE:Hid (s[p]≠10):=Za (by rw [e1];decide);clear e1 g1 J47 J42 H47 HB HX;go_wp2_with fail;go_loop [1] (fun i=>∃ q:Nat,i = .int .i64 q/\p<=q/\q<=s.length/\Hid (X=Qa3 ((s.drop q).dropWhile (· != 10)))) (fun i=>s.length-(intOf i).toNat)
       case atStart=>exact ⟨p,rfl,by omega,by omega,HX2⟩
       case round =>
        clear HX2;obtain ⟨q,rfl,hq1,hq,HX⟩:=hrel;by_cases hqlt:q<s.length
        ·have HL:=Za (Quj hqlt);rcases QaX s[q] 10 10 rfl with ⟨k1,k10⟩|⟨k1,k10⟩
         ·have hne10:((s[q].toNat:Int) != 10)=false:=by rw [bne,k10];rfl
          have HX2:Hid (X=Qa3 (s.drop q)):=Za (by rw [HX.out,HL.out,if_pos k1]);have hqp:q≠p:=by rintro rfl;exact HNE.out k1
          clear k1 HX HL;go_wp2_with fail;go_round
          case rel=>exact ⟨q,rfl,by omega,HX2⟩
          case measure=>simp [intOf];omega
         ·have hne10:((s[q].toNat:Int) != 10)=true:=by rw [bne,k10];rfl
          have HX2:Hid (X=Qa3 ((s.drop (q+1)).dropWhile (· != 10))):=Za (by rw [HX.out,HL.out,if_neg k1]);clear k1 HX HL;go_wp2_with fail;go_round
          case rel=>exact ⟨q+1,by go_num,by omega,by omega,HX2⟩
          case measure=>simp [intOf];omega
        ·have HX2:Hid (X=Qa3 (s.drop q)):=Za (by rw [HX.out,List.drop_eq_nil_of_le (by omega)]<;>rfl);clear HX;go_wp2_with fail;go_round
         case rel=>exact ⟨q,rfl,by omega,HX2⟩
         case measure=>simp [intOf];omega
      ·rcases J42.out with ⟨g2,g42⟩|⟨g2,g42⟩
       ·have HX2:Hid (X=Qm0 (QbU (s.drop (p+2))) (s.drop p)):=Za (by rw [HX.out];exact QlH hl2' e1 g2);clear e1 g1 g2 J47 J42 H47 HB HX;go_upto_region 10 with fail;go_wp2_with fail;go_loop [6] (fun i=>∃ q:Nat,i = .int .i64 q/\p+2<=q/\q<=s.length/\Hid (X=Qm0 (QbU (s.drop q)) (s.drop p))) (fun i=>s.length-(intOf i).toNat)
        case atStart=>exact ⟨p+2,by go_num,by omega,by omega,HX2⟩
        case round =>
         clear HX2;obtain ⟨q,rfl,hq1,hq,HX⟩:=hrel;by_cases hq2:(q:Int)+1<(s.length:Int)
         ·have hq2':q+1<s.length:=by omega
          have HC:=Za (Qsy hq2');rcases QaX s[q] 42 42 rfl with ⟨k1,k42⟩|⟨k1,k42⟩
          ·have n42:((s[q].toNat:Int) != 42)=false:=by rw [bne,k42];rfl
           rcases QaX s[q+1] 47 47 rfl with ⟨k2,k47⟩|⟨k2,k47⟩
           ·have n47:((s[q+1].toNat:Int) != 47)=false:=by rw [bne,k47];rfl
            have HX2:Hid (X=Qa3 (s.drop (q+2))):=Za (by rw [HX.out,HC.out,if_pos ⟨k1,k2⟩]<;>rfl);clear k1 k2 HX HC;go_wp2_with fail;go_round
            case rel=>exact ⟨q+2,by go_num,by omega,HX2⟩
            case measure=>simp [intOf];omega
           ·have n47:((s[q+1].toNat:Int) != 47)=true:=by rw [bne,k47];rfl
            have HX2:Hid (X=Qm0 (QbU (s.drop (q+1))) (s.drop p)):=Za (by rw [HX.out,HC.out,if_neg (fun h=>k2 h.2)]);clear k1 k2 HX HC;go_wp2_with fail;go_round
            case rel=>exact ⟨q+1,by go_num,by omega,by omega,HX2⟩
            case measure=>simp [intOf];omega
          ·have n42:((s[q].toNat:Int) != 42)=true:=by rw [bne,k42];rfl
           have HX2:Hid (X=Qm0 (QbU (s.drop (q+1))) (s.drop p)):=Za (by rw [HX.out,HC.out,if_neg (fun h=>k1 h.1)]);clear k1 HX HC;go_wp2_with fail;go_round
           case rel=>exact ⟨q+1,by go_num,by omega,by omega,HX2⟩
           case measure=>simp [intOf];omega
         ·have HX2:Hid (X=(s.drop p,false)):=Za (by rw [HX.out,QnA (by rw [List.length_drop];omega)]<;>rfl);clear HX;go_wp2_with fail;refine bodyPost_ret (results_tmp2 rfl _ _ _) rfl ?_;exact ⟨by rw [HX2.out];unfold QfR;simp only [];rw [HDL.out];rfl,rfl⟩
       ·have HX2:Hid (X=(s.drop p,true)):=Za (by rw [HX.out];exact QfS hlt HB.out fun k _=>⟨g1,g2⟩);clear e1 g1 g2 J47 J42 H47 HB HX;go_wp2_with fail;refine bodyPost_ret (results_tmp2 rfl _ _ _) rfl ?_;exact ⟨by rw [HX2.out];unfold QfR;simp only [];rw [HDL.out];rfl,rfl⟩
     ·have HX2:Hid (X=(s.drop p,true)):=Za (by rw [HX.out];exact QfS hlt HB.out fun k _=>by omega);clear e1 H47 HB HX;go_wp2_with fail;refine bodyPost_ret (results_tmp2 rfl _ _ _) rfl ?_;exact ⟨by rw [HX2.out];unfold QfR;simp only [];rw [HDL.out];rfl,rfl⟩
    ·have HX2:Hid (X=(s.drop p,true)):=Za (by rw [HX.out];exact QfS hlt HB.out fun k e=>absurd e e1);clear e1 H47 HB HX;by_cases hl2:(p:Int)+1<(s.length:Int)
     ·go_wp2_with fail;refine bodyPost_ret (results_tmp2 rfl _ _ _) rfl ?_;exact ⟨by rw [HX2.out];unfold QfR;simp only [];rw [HDL.out];rfl,rfl⟩
     ·go_wp2_with fail;refine bodyPost_ret (results_tmp2 rfl _ _ _) rfl ?_;exact ⟨by rw [HX2.out];unfold QfR;simp only [];rw [HDL.out];rfl,rfl⟩
   ·have HX2:Hid (X=Qa3 (s.drop (p+1))):=Za (by rw [HX.out,List.drop_eq_getElem_cons hlt,Qnx hb]);have HB:=Za (Qq3 hb);clear hb HX;go_upto_region 3 with fail;go_cut [12] (fun z wx=>z = .bool true/\w=wx)
    case first =>
     rcases HB.out with b1|⟨b1,b2⟩|⟨b1,b2,b3⟩|⟨b1,b2,b3,b4⟩
     ·go_wp2_with fail;go_meet;exact ⟨rfl,rfl⟩
     ·go_wp2_with fail;go_meet;exact ⟨rfl,rfl⟩
     ·go_wp2_with fail;go_meet;exact ⟨rfl,rfl⟩
     ·go_wp2_with fail;go_meet;exact ⟨rfl,rfl⟩
    case rest =>
     obtain ⟨rfl,rfl⟩:=hcut;go_wp2_with fail;go_round
     case rel=>exact ⟨p+1,by go_num,by omega,HX2⟩
     case measure=>simp [intOf];omega
  ·have HX3:Hid (X=([],true)):=Za (by rw [HX.out,List.drop_eq_nil_of_le (by omega)]<;>rfl);have hpl:p=s.length:=by omega
   subst hpl;clear HX;go_wp2_with fail;refine bodyPost_ret (results_tmp2 rfl _ _ _) rfl ?_;exact ⟨by rw [HX3.out];rfl,rfl⟩
end
section
open Go.RowKit
attribute [local go_sem] ByteArray.mk_append_mk Qac Qad Qae
def QbB (a b:Int) (c:List UInt8) (d:Int):Value:=.agg #[.int .i64 a,.int .u64 b,.string ⟨c.toArray⟩,.int .i64 d]
def Qjr (D:List UInt8):Option (Nat×Nat×List UInt8×Nat):=(QcC D).map fun m=>(1,0,D.take m,m)
theorem QnB:∀ (f:Nat) (r:List UInt8) (m:Nat),Qdc f r=some m->m<=r.length
 | 0,_,_,h=>by cases h
 | _+1,[],_,h=>by cases h
 | f+1,c::r,m,h=>by
   unfold Qdc at h;split at h
   ·cases h
   ·split at h
    ·cases h
    ·split at h
     ·next t ht =>
      cases hs:Qdc f t with
      | none=>rw [hs] at h;cases h
      | some k =>
        rw [hs] at h;have:=QnB f t k hs;have hl:=congrArg List.length ht;rw [List.length_drop,List.length_cons,List.length_cons] at hl;simp only [Option.map_some,Option.some.injEq] at h;simp only [List.length_cons];omega
     ·injection h with h;subst h;exact Qfc _
theorem Qkh {s:List UInt8} {m:Nat} (h:QcC s=some m):m<=s.length:=by
 have hp:=Qqc s;unfold QcC at h;split at h
 ·split at h
  ·injection h with h;omega
  ·cases h
 ·next c r hd =>
  split at h
  ·cases hs:Qdc (c::r).length (c::r) with
   | none=>rw [hs] at h;cases h
   | some k =>
     rw [hs] at h;have:=QnB _ _ k hs;rw [<- hd,List.length_drop] at this;simp only [Option.map_some,Option.some.injEq] at h;omega
  ·split at h
   ·injection h with h;omega
   ·cases h
theorem Qff {s:List UInt8} {p:Nat} (h:p<s.length):QcD (s.drop p) =
  if Qba s[p]=true then (Qkb ((s.drop p).take (Qbh (s.drop p)))).map fun v=>(3,v,[],Qbh (s.drop p))
  else if QaK s[p]=true then
   (if Qch ((s.drop p).take (Qbh (s.drop p)))=true then (if Qbh (s.drop p)<=32 then some (2,0,(s.drop p).take (Qbh (s.drop p)),Qbh (s.drop p)) else none)
    else Qjr (s.drop p))
  else if s[p]=92\/s[p]=94 then Qjr (s.drop p)
  else if s[p]=34 then (Qbp (s.drop (p+1)) []).map fun q=>(4,0,q.1,(s.drop p).length-q.2.length)
  else if QdI s[p]=0 then none else some (QdI s[p],0,[],1):=by
 rw [List.drop_eq_getElem_cons h]<;>rfl
theorem Qo4 {s:List UInt8} {p:Nat} (h:p<s.length) (hc:idB s[p]=true):1<=Qbh (s.drop p):=by
 rw [List.drop_eq_getElem_cons h];exact Qd4 hc
end
end Go.Proofs.YtoohondkpddmcaaGreatDoor
