/- Tkc Tkd Tke Tkf Tkg -/
import Derived.Test.YtoohondkpddmcaaGreatDoorYzz
import Derived.Test.YtoohondkpddmcaaGreatDoorYaa
import Derived.Test.YtoohondkpddmcaaGreatDoorYab
import Derived.Laws.BitsAllLaws
import Derived.Laws.BitsLemmas
import Derived.IntWalk
namespace Go.Proofs.YtoohondkpddmcaaGreatDoor
set_option maxHeartbeats 32000000
set_option linter.unusedVariables false
set_option linter.unusedSimpArgs false
section
open Go.RowKit
attribute [local go_sem] ByteArray.mk_append_mk Qah Qai Qag
theorem QeC (s:List UInt8):Qbd s<=s.length:=(List.takeWhile_sublist (l:=s) idB).length_le
theorem QfN (c:UInt8) (d:UInt8):((c.toNat:Int)==(d.toNat:Int))=(d==c):=by
 rw [Bool.eq_iff_iff,beq_iff_eq,beq_iff_eq];constructor
 ·intro h;exact (UInt8.toNat_inj.1 (by omega)).symm
 ·rintro rfl;rfl
theorem Qdm (c d:UInt8) (t:List UInt8):Lib.hasPrefix (c::t) [d]=(d==c):=by simp [Lib.hasPrefix,List.isPrefixOf]
def Qes (s:List UInt8) (k:Nat):Nat:=k+QiE (s.drop k)
theorem Qo0 {s:List UInt8} {k:Nat} (h:k<s.length):Qes s k=if (94==s[k])=true then Qes s (k+1) else k:=by
 unfold Qes QiE;rw [List.drop_eq_getElem_cons h,List.takeWhile_cons];have e:(s[k]==94)=(94==s[k]):=by rw [Bool.eq_iff_iff,beq_iff_eq,beq_iff_eq];exact eq_comm
 rw [e];split
 ·rw [List.length_cons];omega
 ·rfl
theorem Qo1 (s:List UInt8):QiE s<=s.length:=(List.takeWhile_sublist (l:=s) (·==(94:UInt8))).length_le
theorem Qom (s:List UInt8):Qc3 s<=s.length:=by
 unfold Qc3;split
 ·simp
 ·exact Qo1 _
theorem Qo2 {s:List UInt8} (h:Lib.hasPrefix s [92]=true):Qc3 s=1:=by
 cases s with
 | nil=>cases h
 | cons c t =>
   rw [Qdm,beq_iff_eq] at h;subst h;rfl
theorem Qqz {s:List UInt8} (h:Lib.hasPrefix s [92]=false):Qc3 s=Qes s 0:=by
 unfold Qc3;split
 ·rw [Qdm] at h;cases h
 ·unfold Qes;simp
end
section
open Go.RowKit
attribute [local go_sem] ByteArray.mk_append_mk Qah Qai Qag
theorem QdP {c:UInt8} {r:List UInt8} (h:idB c=true):1<=Qbd (c::r):=by
 unfold Qbd;rw [List.takeWhile_cons,if_pos h];simp
theorem QiG:∀ (f g:Nat) (r:List UInt8),r.length<=f->r.length<=g->Qc5 f r=Qc5 g r
 | 0,0,_,_,_=>rfl
 | 0,g+1,r,h,_=>by
   have:r=[]:=List.eq_nil_of_length_eq_zero (by omega);subst this;rfl
 | f+1,0,r,_,h=>by
   have:r=[]:=List.eq_nil_of_length_eq_zero (by omega);subst this;rfl
 | f+1,g+1,r,h1,h2=>by
   cases r with
   | nil=>rfl
   | cons c r =>
     unfold Qc5;split
     ·rfl
     ·split
      ·rfl
      ·split
       ·next t ht =>
        have:=congrArg List.length ht;simp only [List.length_drop,List.length_cons] at this h1 h2;rw [QiG f g t (by omega) (by omega)]
       ·rfl
def Qdn (r:List UInt8):Option Nat:=Qc5 r.length r
theorem Qo3 {c:UInt8} {r:List UInt8} (h:QaC c=false):Qdn (c::r)=none:=by
 unfold Qdn;rw [List.length_cons,Qc5,if_pos h]
theorem Qo4 {c:UInt8} {r:List UInt8} (h:QaV ((c::r).take (Qbd (c::r)))=false):Qdn (c::r)=none:=by
 unfold Qdn;rw [List.length_cons,Qc5];split
 ·rfl
 ·first|rfl|rw [if_pos h]
theorem Qo5 {c:UInt8} {r:List UInt8} (h:QaC c=true) (h2:QaV ((c::r).take (Qbd (c::r)))=true) (h3:∀ t,(c::r).drop (Qbd (c::r))≠46::t):Qdn (c::r)=some (Qbd (c::r)):=by
 unfold Qdn;rw [List.length_cons,Qc5,if_neg (by rw [h];decide),if_neg (by rw [h2];decide)];split
 ·next t ht=>exact absurd ht (h3 t)
 ·rfl
theorem Qo6 {c:UInt8} {r t:List UInt8} (h:QaC c=true) (h2:QaV ((c::r).take (Qbd (c::r)))=true) (h3:(c::r).drop (Qbd (c::r))=46::t):Qdn (c::r)=(Qdn t).map (Qbd (c::r)+1 + ·):=by
 unfold Qdn;have:=congrArg List.length h3;simp only [List.length_drop,List.length_cons] at this;rw [List.length_cons,Qc5,if_neg (by rw [h];decide),if_neg (by rw [h2];decide)];split
 ·next t' ht =>
  rw [h3] at ht;injection ht with _ ht;subst ht;rw [QiG r.length t.length t (by omega) Zc]
 ·next hn=>exact absurd h3 (hn t)
theorem Qo7 {s:List UInt8} (h:Qc3 s=s.length):Qcq s=if 0<Qc3 s then some (Qc3 s) else none:=by
 unfold Qcq;rw [List.drop_eq_nil_of_le (by omega)]
theorem Qm1 {s:List UInt8} (h:Qc3 s<s.length) (hl:QaC s[Qc3 s]=false):Qcq s=if 0<Qc3 s then some (Qc3 s) else none:=by
 unfold Qcq;rw [List.drop_eq_getElem_cons h];simp only [hl];rfl
theorem Qm2 {s:List UInt8} (h:Qc3 s<s.length) (hl:QaC s[Qc3 s]=true):Qcq s=(Qdn (s.drop (Qc3 s))).map (Qc3 s + ·):=by
 unfold Qcq Qdn;rw [List.drop_eq_getElem_cons h];simp only [hl];rfl
end
section
open Go.RowKit
attribute [local go_sem] ByteArray.mk_append_mk Qah Qai Qag
theorem Qb6 (c:UInt8) (b:Bool) (H:QaC c=b) (w:World):Calls Tryz.prog 189 #[.int .u8 c.toNat] w fun e w'=>e = .returned (.bool b)/\w=w':=by
 rw [<- H];exact QcB c w
theorem QeD (c:UInt8) (b:Bool) (H:Qa7 c=b) (w:World):Calls Tryz.prog 197 #[.int .u8 c.toNat] w fun e w'=>e = .returned (.bool b)/\w=w':=by
 rw [<- H];exact QfL c w
def Qfg (o:Option Nat) (i:Nat):Int:=match o with
 | some m=>((i+m:Nat):Int)
 | none=>-1
theorem Qge (s:List UInt8) (j:Nat):Qc4 s j=j+Qbd (s.drop j):=rfl
set_option maxRecDepth 100000 in
theorem Qkn (s:List UInt8) (i:Nat) (w:World) (hs:s.length<=9223372036854770000) (hi:i<=s.length) :
  Calls Tryz.prog 196 #[.string ⟨s.toArray⟩,.int .i64 i] w fun e w'=>e = .returned (.int .i64 (Qfg (Qcq (s.drop i)) i))/\w=w':=by
 obtain ⟨p0,hp0⟩:∃ p,i+Qc3 (s.drop i)=p:=⟨_,rfl⟩;have hp1:p0<=s.length:=by have:=Qom (s.drop i);rw [List.length_drop] at this;omega
 have hp2:i<=p0:=by omega
 obtain ⟨X,hX⟩:∃ X,Hid (Qfg (Qcq (s.drop i)) i=X):=⟨_,Za rfl⟩;rw [hX.out];have HSTOP:Hid ((p0=s.length\/∃ h:p0<s.length,QaC s[p0]=false)->X=if i<p0 then (p0:Int) else -1):=Za (by
  intro h;have e:Qcq (s.drop i)=if 0<Qc3 (s.drop i) then some (Qc3 (s.drop i)) else none:=by
   rcases h with h|⟨h,h2⟩
   ·exact Qo7 (by rw [List.length_drop];omega)
   ·refine Qm1 (by rw [List.length_drop];omega) ?_;subst hp0;rw [List.getElem_drop];exact h2
  rw [<- hX.out,e];by_cases h0:0<Qc3 (s.drop i)
  ·rw [if_pos h0,if_pos (by omega)];unfold Qfg;simp only;omega
  ·rw [if_neg h0,if_neg (by omega)]<;>rfl)
 have HGO:Hid (∀ h:p0<s.length,QaC s[p0]=true->X=Qfg (Qdn (s.drop p0)) p0):=Za (by
  intro h h2;have e:Qcq (s.drop i)=(Qdn ((s.drop i).drop (Qc3 (s.drop i)))).map (Qc3 (s.drop i) + ·):=by
   refine Qm2 (by rw [List.length_drop];omega) ?_;subst hp0;rw [List.getElem_drop];exact h2
  rw [<- hX.out,e,List.drop_drop,hp0];unfold Qfg;cases Qdn (s.drop p0) with
  | none=>rfl
  | some m=>simp only [Option.map_some];omega)
 go_enter Tryz.func196,Tryz.ntmps196;go_upto_region 2 with fail;go_cut [17] (fun z wx=>z = .bool (Lib.hasPrefix (s.drop i) [92])/\w=wx)
 case first =>
  by_cases hl:i<s.length
  ·have hcc:((s[i].toNat:Int)==92)=Lib.hasPrefix (s.drop i) [92]:=by
    rw [List.drop_eq_getElem_cons hl,show (92:Int)=((92:UInt8).toNat:Int) from rfl,QfN,Qdm]
   go_wp2_with fail;go_meet;exact ⟨rfl,rfl⟩
  ·have hdn:Hid (Lib.hasPrefix (s.drop i) [92]=false):=Za (by rw [List.drop_eq_nil_of_le (by omega)]<;>rfl);go_wp2_with fail;go_meet;exact ⟨by rw [hdn.out],rfl⟩
 case rest =>
  obtain ⟨rfl,rfl⟩:=hcut;go_upto_if 17 with fail;go_cut [5] (fun z wx=>z = .int .i64 p0/\w=wx)
  case first =>
   cases hb:Lib.hasPrefix (s.drop i) [92]
   ·have HC:Hid (p0=Qes s i):=Za (by
     rw [<- hp0,Qqz hb];unfold Qes;simp)
    go_wp2_with fail;go_loop [5] (fun v=>∃ k:Nat,v = .int .i64 k/\k<=s.length/\Hid (p0=Qes s k)) (fun v=>s.length-(intOf v).toNat)
    case atStart=>exact ⟨i,rfl,hi,HC⟩
    case round =>
     clear HC;obtain ⟨k,rfl,hk,HE⟩:=hrel;by_cases hl:k<s.length
     ·have hat:=Za (Qo0 hl);have hcc:((s[k].toNat:Int)==94)=(94==s[k]):=QfN s[k] 94;cases h1:((94:UInt8)==s[k])
      ·rw [h1] at hcc;have HE2:Hid (p0=k):=Za (by rw [HE.out,hat.out,h1]<;>rfl);clear h1;go_wp2_with fail;go_meet;exact ⟨by rw [HE2.out],rfl⟩
      ·rw [h1] at hcc;have HE2:Hid (p0=Qes s (k+1)):=Za (by rw [HE.out,hat.out,h1]<;>rfl);clear h1;go_wp2_with fail;go_round
       case rel=>exact ⟨k+1,by go_num,by omega,HE2⟩
       case measure=>simp [intOf];omega
     ·have HE2:Hid (p0=k):=Za (by rw [HE.out];unfold Qes QiE;rw [List.drop_eq_nil_of_le (by omega)]<;>rfl);go_wp2_with fail;go_meet;exact ⟨by rw [HE2.out],rfl⟩
   ·have HC:Hid (p0=i+1):=Za (by rw [<- hp0,Qo2 hb]);go_wp2_with fail;go_meet;exact ⟨by rw [HC.out];go_num,rfl⟩
  case rest =>
   obtain ⟨rfl,rfl⟩:=hcut;clear hp0 hX;by_cases hl:p0=s.length
   ·have HX2:=Za (HSTOP.out (.inl hl));have hlb:((p0:Int)==(s.length:Int))=true:=by rw [beq_iff_eq];omega
    clear hl HSTOP HGO;by_cases h0:(i:Int)<(p0:Int)
    ·go_wp2_with fail;go_ret;exact ⟨by rw [HX2.out,if_pos (by omega)];rfl,rfl⟩
    ·go_wp2_with fail;go_ret;exact ⟨by rw [HX2.out,if_neg (by omega)];rfl,rfl⟩
   ·have hlt:p0<s.length:=by omega
    have hlb:((p0:Int)==(s.length:Int))=false:=by rw [beq_eq_false_iff_ne];omega
    cases hlet:QaC s[p0]
    ·have HX2:=Za (HSTOP.out (.inr ⟨hlt,hlet⟩));clear HSTOP HGO hl;by_cases h0:(i:Int)<(p0:Int)
     ·go_wp2_with (go_at_call 189;refine (Qb6 _ _ hlet _).mono ?_;rintro e w' ⟨rfl,rfl⟩);go_ret;exact ⟨by rw [HX2.out,if_pos (by omega)];rfl,rfl⟩
     ·go_wp2_with (go_at_call 189;refine (Qb6 _ _ hlet _).mono ?_;rintro e w' ⟨rfl,rfl⟩);go_ret;exact ⟨by rw [HX2.out,if_neg (by omega)];rfl,rfl⟩
    ·have HX2:=Za (HGO.out hlt hlet);clear HSTOP HGO hl;go_wp2_with (go_at_call 189;refine (Qb6 _ _ hlet _).mono ?_;rintro e w' ⟨rfl,rfl⟩);clear hlet hlb;go_loop [5] (fun v=>∃ p:Nat,v = .int .i64 p/\p<=s.length/\Hid (X=Qfg (Qdn (s.drop p)) p)) (fun v=>s.length-(intOf v).toNat)
     case atStart=>exact ⟨p0,rfl,hp1,HX2⟩
     case round =>
      clear HX2;obtain ⟨p,rfl,hp,HX⟩:=hrel;have HI:=Za (QfM s p w (by omega) (by omega));rw [Qge] at HI;obtain ⟨n,hn⟩:∃ n,Qbd (s.drop p)=n:=⟨_,rfl⟩;have hnl:n<=s.length-p:=by rw [<- hn,<- List.length_drop];exact QeC _
      rw [hn] at HI;by_cases hl:p=s.length
      ·have hlb:((p:Int)==(s.length:Int))=true:=by rw [beq_iff_eq];omega
       have HX3:Hid (X = -1):=Za (by rw [HX.out,List.drop_eq_nil_of_le (by omega)]<;>rfl);clear hl hn;go_wp2_with fail;((with_reducible refine HI.out.mono ?_));rintro e w2 ⟨rfl,rfl⟩;go_wp2_with fail;go_ret;exact ⟨by rw [HX3.out];rfl,rfl⟩
      ·have hlt2:p<s.length:=by omega
       have hlb:((p:Int)==(s.length:Int))=false:=by rw [beq_eq_false_iff_ne];omega
       cases hlet:QaC s[p]
       ·have HX3:Hid (X = -1):=Za (by rw [HX.out,List.drop_eq_getElem_cons hlt2,Qo3 hlet]<;>rfl);clear hl hn;go_wp2_with fail;((with_reducible refine HI.out.mono ?_));rintro e w2 ⟨rfl,rfl⟩;go_wp2_with (go_at_call 189;refine (Qb6 _ _ hlet _).mono ?_;rintro e w' ⟨rfl,rfl⟩);go_ret;exact ⟨by rw [HX3.out];rfl,rfl⟩
       ·have hn1:1<=n:=by rw [<- hn,List.drop_eq_getElem_cons hlt2];exact QdP (by unfold idB;rw [hlet]<;>rfl)
        obtain ⟨sb,hsb⟩:∃ sb,Hid (QaV ((s.drop p).take n)=sb):=⟨_,Za rfl⟩;have HSEGF:Hid (sb=false->X = -1):=Za (by
         intro h;rw [<- hsb.out] at h;rw [HX.out];rw [<- hn] at h;rw [List.drop_eq_getElem_cons hlt2] at h |-;rw [Qo4 h]<;>rfl)
        have HEND:Hid (sb=true->(∀ t,s.drop (p+n)≠46::t)->X=((p+n:Nat):Int)):=Za (by
         intro h h2;rw [<- hsb.out] at h;rw [HX.out];rw [<- List.drop_drop] at h2;rw [<- hn] at h h2;have e:Qbd (s.drop p)=n:=hn;rw [List.drop_eq_getElem_cons hlt2] at h h2 e |-;rw [Qo5 hlet h h2,e]<;>rfl)
        have HDOT:Hid (sb=true->∀ t,s.drop (p+n)=46::t->X=Qfg (Qdn t) (p+n+1)):=Za (by
         intro h t h2;rw [<- hsb.out] at h;rw [HX.out];rw [<- List.drop_drop] at h2;rw [<- hn] at h h2;have e:Qbd (s.drop p)=n:=hn;rw [List.drop_eq_getElem_cons hlt2] at h h2 e |-;rw [Qo6 hlet h h2,e];cases Qdn t with
         | none=>rfl
         | some m=>unfold Qfg;simp only [Option.map_some];omega)
        have HSG:=Za (QcJ ((s.drop p).take n) sb hsb w (by rw [List.length_take,List.length_drop];omega));clear hn hl;go_wp2_with fail;((with_reducible refine HI.out.mono ?_));rintro e w2 ⟨rfl,rfl⟩;obtain ⟨q,hq⟩:∃ q,p+n=q:=⟨_,rfl⟩;have hqn:q-p=n:=by omega
        rw [hq] at HEND HDOT |-;go_wp2_with (go_at_call 189;refine (Qb6 _ _ hlet _).mono ?_;rintro e w' ⟨rfl,rfl⟩);((with_reducible refine HSG.out.mono ?_));rintro e w2 ⟨rfl,rfl⟩;clear hlet;cases sb
        ·have HX3:=Za (HSEGF.out rfl);go_wp2_with fail;go_ret;exact ⟨by rw [HX3.out];rfl,rfl⟩
        ·by_cases hql:q=s.length
         ·have hqb:((q:Int)==(s.length:Int))=true:=by rw [beq_iff_eq];omega
          have HX3:=Za (HEND.out rfl (by intro t;rw [List.drop_eq_nil_of_le (by omega)];simp));clear hql;go_wp2_with fail;go_ret;exact ⟨by rw [HX3.out];rfl,rfl⟩
         ·have hqb:((q:Int)==(s.length:Int))=false:=by rw [beq_eq_false_iff_ne];omega
          have hqlt:q<s.length:=by omega
          by_cases hdot:s[q]=46
          ·have hcc:((s[q].toNat:Int) != 46)=false:=by rw [hdot];rfl
           have HX3:=Za (HDOT.out rfl (s.drop (q+1)) (by rw [List.drop_eq_getElem_cons hqlt,hdot]));clear hdot hql;go_wp2_with fail;go_round
           case rel=>exact ⟨q+1,by go_num,by omega,HX3⟩
           case measure=>simp [intOf];omega
          ·have hcc:((s[q].toNat:Int) != 46)=true:=by
            rw [bne,show (46:Int)=((46:UInt8).toNat:Int) from rfl,QfN];simpa using fun e=>hdot e.symm
           have HX3:=Za (HEND.out rfl (by intro t;rw [List.drop_eq_getElem_cons hqlt];intro e;injection e with e _;exact hdot e));clear hdot hql;go_wp2_with fail;go_ret;exact ⟨by rw [HX3.out];rfl,rfl⟩
end
section
open Go.RowKit
attribute [local go_sem] ByteArray.mk_append_mk Qah Qai Qag
theorem Qk4 {c:UInt8} {d:Nat} (h:QcC c=some d):d<16:=by
 have hc:=c.toNat_lt;unfold QcC Qa7 at h;split at h
 ·next h1=>injection h with h;simp at h1;omega
 ·split at h
  ·injection h with h;omega
  ·split at h
   ·injection h with h;omega
   ·cases h
def Qon (o:Option Nat):Value:=.tuple #[.int .u64 (o.getD 0:Nat),.bool o.isSome]
theorem QqA {s:List UInt8} {k v d:Nat} (h:k<s.length) (hd:QcC s[k]=some d):Qhl (s.drop k) v=Qhl (s.drop (k+1)) (v * 16+d):=by
 rw [List.drop_eq_getElem_cons h,Qhl,hd]
theorem Qss {s:List UInt8} {k v:Nat} (h:k<s.length) (hd:QcC s[k]=none):Qhl (s.drop k) v=none:=by
 rw [List.drop_eq_getElem_cons h,Qhl,hd]
theorem QqB {s:List UInt8} {k v:Nat} (h:s.length<=k):Qhl (s.drop k) v=some v:=by
 rw [List.drop_eq_nil_of_le h];rfl
theorem QvB (v d:Nat) (hv:v<1152921504606846976) (hd:d<16):bits .or .u64 ((v:Int) * 16) (d:Int)=((v * 16+d:Nat):Int):=by
 have hc:((v:Int) * 16)=((v * 16:Nat):Int):=by rw [Int.natCast_mul];rfl
 rw [hc,u64_or_nat _ _ (by omega) (by omega),nat_join 4 _ _ (by omega) (by omega)]
theorem QqC {k:Nat} (h:k<16):16 ^ k<=1152921504606846976:=by
 have:16 ^ k<=16 ^ 15:=Nat.pow_le_pow_right (by omega) (by omega);omega
theorem QqD {s:List UInt8} {k v:Nat} (h:k<s.length) (hd:Qa7 s[k]=false):Qeb (s.drop k) v=none:=by
 rw [List.drop_eq_getElem_cons h,Qeb,if_neg (by rw [hd];decide)]
theorem QqE {s:List UInt8} {k v:Nat} (h:k<s.length) (hd:Qa7 s[k]=true) (hb:(18446744073709551615-(s[k].toNat-48)) / 10<v):Qeb (s.drop k) v=none:=by
 rw [List.drop_eq_getElem_cons h,Qeb,if_pos hd,if_pos hb]
theorem QqF {s:List UInt8} {k v:Nat} (h:k<s.length) (hd:Qa7 s[k]=true) (hb:¬ (18446744073709551615-(s[k].toNat-48)) / 10<v):Qeb (s.drop k) v=Qeb (s.drop (k+1)) (v * 10+(s[k].toNat-48)):=by
 rw [List.drop_eq_getElem_cons h,Qeb,if_pos hd,if_neg hb]
theorem QqG {s:List UInt8} {k v:Nat} (h:s.length<=k):Qeb (s.drop k) v=some v:=by
 rw [List.drop_eq_nil_of_le h];rfl
theorem QcQ {c:UInt8} (h:Qa7 c=true):48<=c.toNat/\c.toNat<=57:=by unfold Qa7 at h;simpa using h
end
section
open Go.RowKit
attribute [local go_sem] ByteArray.mk_append_mk Qah Qai Qag
theorem QiH:∀ (s:List UInt8) (v r:Nat),v<=18446744073709551615->Qeb s v=some r->v * 10 ^ s.length<=r/\r<=18446744073709551615
 | [],v,r,hv,h=>by
   rw [Qeb] at h;injection h with h;subst h;simp;exact hv
 | c::t,v,r,hv,h=>by
   rw [Qeb] at h;split at h
   ·next hc =>
    have hc2:=QcQ hc;split at h
    ·cases h
    ·next hb =>
     have:=QiH t _ r (by omega) h;refine ⟨Nat.le_trans ?_ this.1,this.2⟩;rw [List.length_cons,Nat.pow_succ,Nat.mul_comm (10 ^ t.length),<- Nat.mul_assoc];exact Nat.mul_le_mul_right _ (by omega)
   ·cases h
theorem Qo8 {s:List UInt8} (h:20<s.length) (h0:s.head?≠some 48):Qeb s 0=none:=by
 cases s with
 | nil=>simp at h
 | cons c t =>
   rw [Qeb];split
   ·next hc =>
    split
    ·rfl
    ·next hb =>
     have hc2:=QcQ hc;have hne:c.toNat≠48:=fun e=>h0 (by
      have:c=48:=UInt8.toNat_inj.1 (by rw [e]<;>rfl);subst this;rfl)
     cases hr:Qeb t (0 * 10+(c.toNat-48)) with
     | none=>rfl
     | some r =>
       exfalso;have:=QiH t _ r (by omega) hr;have h10:10 ^ 20<=10 ^ t.length:=Nat.pow_le_pow_right (by omega) (by simp at h;omega);have h11:1 * 10 ^ t.length<=(0 * 10+(c.toNat-48)) * 10 ^ t.length:=Nat.mul_le_mul_right _ (by omega);omega
   ·rfl
def Qfp:List UInt8->Bool
 | 48::120::_::_=>true
 | _=>false
theorem QqH {s:List UInt8} (h:Qfp s=true):QiF s=if 18<s.length then none else Qhl (s.drop 2) 0:=by
 unfold Qfp at h;split at h
 ·next c r =>
  unfold QiF;simp only [List.length_cons,List.drop_succ_cons,List.drop_zero];by_cases hl:18<r.length+1+1+1
  ·rw [if_pos (.inr (by omega)),if_pos hl]
  ·rw [if_neg (by simp;omega),if_neg hl]
 ·cases h
theorem QqI {s:List UInt8} (h:Qfp s=false) (h0:s≠[]):QiF s=if 20<s.length\/(1<s.length/\s.head?=some 48) then none else Qeb s 0:=by
 unfold QiF;split
 ·next d =>
  have hd:d=[]:=by cases d with
   | nil=>rfl
   | cons c t=>cases h
  subst hd;rfl
 ·rfl
 ·next t hn1 hn2 =>
  rw [if_pos (.inr ⟨by cases t with
   | nil=>exact absurd rfl hn2
   | cons c r=>simp,rfl⟩)]
 ·next hn1 hn2 hn3 =>
  have hh:s.head?≠some 48:=fun e=>by
   cases s with
   | nil=>cases e
   | cons c t =>
     simp at e;subst e;exact hn3 t rfl
  by_cases h20:20<s.length
  ·rw [if_pos (.inl h20),Qo8 h20 hh]
  ·rw [if_neg (by rintro (h|⟨_,h⟩);exact h20 h;exact hh h)]
end
end Go.Proofs.YtoohondkpddmcaaGreatDoor
