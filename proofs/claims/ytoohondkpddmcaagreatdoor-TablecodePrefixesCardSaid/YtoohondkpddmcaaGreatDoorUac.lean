/- Tkc Tkd Tke Tkf Tkg Tkh -/
import Derived.Test.YtoohondkpddmcaaGreatDoorUzz
import Derived.Test.YtoohondkpddmcaaGreatDoorUaa
import Derived.Test.YtoohondkpddmcaaGreatDoorUab
import Derived.Laws.BitsAllLaws
import Derived.Laws.BitsLemmas
import Derived.IntWalk
namespace Go.Proofs.YtoohondkpddmcaaGreatDoor
set_option maxHeartbeats 32000000
set_option linter.unusedVariables false
set_option linter.unusedSimpArgs false
section
open Go.RowKit
attribute [local go_sem] ByteArray.mk_append_mk Qac Qad Qae
theorem Qfc (s:List UInt8):Qbh s<=s.length:=(List.takeWhile_sublist (l:=s) idB).length_le
theorem Qg2 (c:UInt8) (d:UInt8):((c.toNat:Int)==(d.toNat:Int))=(d==c):=by
 rw [Bool.eq_iff_iff,beq_iff_eq,beq_iff_eq];constructor
 ·intro h;exact (UInt8.toNat_inj.1 (by omega)).symm
 ·rintro rfl;rfl
theorem Qdz (c d:UInt8) (t:List UInt8):Lib.hasPrefix (c::t) [d]=(d==c):=by simp [Lib.hasPrefix,List.isPrefixOf]
def QeS (s:List UInt8) (k:Nat):Nat:=k+Qka (s.drop k)
theorem QqO {s:List UInt8} {k:Nat} (h:k<s.length):QeS s k=if (94==s[k])=true then QeS s (k+1) else k:=by
 unfold QeS Qka;rw [List.drop_eq_getElem_cons h,List.takeWhile_cons];have e:(s[k]==94)=(94==s[k]):=by rw [Bool.eq_iff_iff,beq_iff_eq,beq_iff_eq];exact eq_comm
 rw [e];split
 ·rw [List.length_cons];omega
 ·rfl
theorem QqP (s:List UInt8):Qka s<=s.length:=(List.takeWhile_sublist (l:=s) (·==(94:UInt8))).length_le
theorem Qqc (s:List UInt8):Qda s<=s.length:=by
 unfold Qda;split
 ·simp
 ·exact QqP _
theorem QqQ {s:List UInt8} (h:Lib.hasPrefix s [92]=true):Qda s=1:=by
 cases s with
 | nil=>cases h
 | cons c t =>
   rw [Qdz,beq_iff_eq] at h;subst h;rfl
theorem Qsj {s:List UInt8} (h:Lib.hasPrefix s [92]=false):Qda s=QeS s 0:=by
 unfold Qda;split
 ·rw [Qdz] at h;cases h
 ·unfold QeS;simp
end
section
open Go.RowKit
attribute [local go_sem] ByteArray.mk_append_mk Qac Qad Qae
theorem Qd4 {c:UInt8} {r:List UInt8} (h:idB c=true):1<=Qbh (c::r):=by
 unfold Qbh;rw [List.takeWhile_cons,if_pos h];simp
theorem Qkc:∀ (f g:Nat) (r:List UInt8),r.length<=f->r.length<=g->Qdc f r=Qdc g r
 | 0,0,_,_,_=>rfl
 | 0,g+1,r,h,_=>by
   have:r=[]:=List.eq_nil_of_length_eq_zero (by omega);subst this;rfl
 | f+1,0,r,_,h=>by
   have:r=[]:=List.eq_nil_of_length_eq_zero (by omega);subst this;rfl
 | f+1,g+1,r,h1,h2=>by
   cases r with
   | nil=>rfl
   | cons c r =>
     unfold Qdc;split
     ·rfl
     ·split
      ·rfl
      ·split
       ·next t ht =>
        have:=congrArg List.length ht;simp only [List.length_drop,List.length_cons] at this h1 h2;rw [Qkc f g t (by omega) (by omega)]
       ·rfl
def QdA (r:List UInt8):Option Nat:=Qdc r.length r
theorem QqR {c:UInt8} {r:List UInt8} (h:QaK c=false):QdA (c::r)=none:=by
 unfold QdA;rw [List.length_cons,Qdc,if_pos h]
theorem QqS {c:UInt8} {r:List UInt8} (h:Qa2 ((c::r).take (Qbh (c::r)))=false):QdA (c::r)=none:=by
 unfold QdA;rw [List.length_cons,Qdc];split
 ·rfl
 ·first|rfl|rw [if_pos h]
theorem QqT {c:UInt8} {r:List UInt8} (h:QaK c=true) (h2:Qa2 ((c::r).take (Qbh (c::r)))=true) (h3:∀ t,(c::r).drop (Qbh (c::r))≠46::t):QdA (c::r)=some (Qbh (c::r)):=by
 unfold QdA;rw [List.length_cons,Qdc,if_neg (by rw [h];decide),if_neg (by rw [h2];decide)];split
 ·next t ht=>exact absurd ht (h3 t)
 ·rfl
theorem QqU {c:UInt8} {r t:List UInt8} (h:QaK c=true) (h2:Qa2 ((c::r).take (Qbh (c::r)))=true) (h3:(c::r).drop (Qbh (c::r))=46::t):QdA (c::r)=(QdA t).map (Qbh (c::r)+1 + ·):=by
 unfold QdA;have:=congrArg List.length h3;simp only [List.length_drop,List.length_cons] at this;rw [List.length_cons,Qdc,if_neg (by rw [h];decide),if_neg (by rw [h2];decide)];split
 ·next t' ht =>
  rw [h3] at ht;injection ht with _ ht;subst ht;rw [Qkc r.length t.length t (by omega) Zc]
 ·next hn=>exact absurd h3 (hn t)
theorem QqV {s:List UInt8} (h:Qda s=s.length):QcC s=if 0<Qda s then some (Qda s) else none:=by
 unfold QcC;rw [List.drop_eq_nil_of_le (by omega)]
theorem QoW {s:List UInt8} (h:Qda s<s.length) (hl:QaK s[Qda s]=false):QcC s=if 0<Qda s then some (Qda s) else none:=by
 unfold QcC;rw [List.drop_eq_getElem_cons h];simp only [hl];rfl
theorem QoX {s:List UInt8} (h:Qda s<s.length) (hl:QaK s[Qda s]=true):QcC s=(QdA (s.drop (Qda s))).map (Qda s + ·):=by
 unfold QcC QdA;rw [List.drop_eq_getElem_cons h];simp only [hl];rfl
end
section
open Go.RowKit
attribute [local go_sem] ByteArray.mk_append_mk Qac Qad Qae
theorem Qce (c:UInt8) (b:Bool) (H:QaK c=b) (w:World):Calls Tryz.prog 189 #[.int .u8 c.toNat] w fun e w'=>e = .returned (.bool b)/\w=w':=by
 rw [<- H];exact QcL c w
theorem Qfd (c:UInt8) (b:Bool) (H:Qba c=b) (w:World):Calls Tryz.prog 197 #[.int .u8 c.toNat] w fun e w'=>e = .returned (.bool b)/\w=w':=by
 rw [<- H];exact Qg0 c w
def Qgp (o:Option Nat) (i:Nat):Int:=match o with
 | some m=>((i+m:Nat):Int)
 | none=>-1
theorem QhI (s:List UInt8) (j:Nat):Qdb s j=j+Qbh (s.drop j):=rfl
set_option maxRecDepth 100000 in
theorem QlV (s:List UInt8) (i:Nat) (w:World) (hs:s.length<=9223372036854770000) (hi:i<=s.length) :
  Calls Tryz.prog 196 #[.string ⟨s.toArray⟩,.int .i64 i] w fun e w'=>e = .returned (.int .i64 (Qgp (QcC (s.drop i)) i))/\w=w':=by
 obtain ⟨p0,hp0⟩:∃ p,i+Qda (s.drop i)=p:=⟨_,rfl⟩;have hp1:p0<=s.length:=by have:=Qqc (s.drop i);rw [List.length_drop] at this;omega
 have hp2:i<=p0:=by omega
 obtain ⟨X,hX⟩:∃ X,Hid (Qgp (QcC (s.drop i)) i=X):=⟨_,Za rfl⟩;rw [hX.out];have HSTOP:Hid ((p0=s.length\/∃ h:p0<s.length,QaK s[p0]=false)->X=if i<p0 then (p0:Int) else -1):=Za (by
  intro h;have e:QcC (s.drop i)=if 0<Qda (s.drop i) then some (Qda (s.drop i)) else none:=by
   rcases h with h|⟨h,h2⟩
   ·exact QqV (by rw [List.length_drop];omega)
   ·refine QoW (by rw [List.length_drop];omega) ?_;subst hp0;rw [List.getElem_drop];exact h2
  rw [<- hX.out,e];by_cases h0:0<Qda (s.drop i)
  ·rw [if_pos h0,if_pos (by omega)];unfold Qgp;simp only;omega
  ·rw [if_neg h0,if_neg (by omega)]<;>rfl)
 have HGO:Hid (∀ h:p0<s.length,QaK s[p0]=true->X=Qgp (QdA (s.drop p0)) p0):=Za (by
  intro h h2;have e:QcC (s.drop i)=(QdA ((s.drop i).drop (Qda (s.drop i)))).map (Qda (s.drop i) + ·):=by
   refine QoX (by rw [List.length_drop];omega) ?_;subst hp0;rw [List.getElem_drop];exact h2
  rw [<- hX.out,e,List.drop_drop,hp0];unfold Qgp;cases QdA (s.drop p0) with
  | none=>rfl
  | some m=>simp only [Option.map_some];omega)
 go_enter Tryz.func196,Tryz.ntmps196;go_upto_region 2 with fail;go_cut [17] (fun z wx=>z = .bool (Lib.hasPrefix (s.drop i) [92])/\w=wx)
 case first =>
  by_cases hl:i<s.length
  ·have hcc:((s[i].toNat:Int)==92)=Lib.hasPrefix (s.drop i) [92]:=by
    rw [List.drop_eq_getElem_cons hl,show (92:Int)=((92:UInt8).toNat:Int) from rfl,Qg2,Qdz]
   go_wp2_with fail;go_meet;exact ⟨rfl,rfl⟩
  ·have hdn:Hid (Lib.hasPrefix (s.drop i) [92]=false):=Za (by rw [List.drop_eq_nil_of_le (by omega)]<;>rfl);go_wp2_with fail;go_meet;exact ⟨by rw [hdn.out],rfl⟩
 case rest =>
  obtain ⟨rfl,rfl⟩:=hcut;go_upto_if 17 with fail;go_cut [5] (fun z wx=>z = .int .i64 p0/\w=wx)
  case first =>
   cases hb:Lib.hasPrefix (s.drop i) [92]
   ·have HC:Hid (p0=QeS s i):=Za (by
     rw [<- hp0,Qsj hb];unfold QeS;simp)
    go_wp2_with fail;go_loop [5] (fun v=>∃ k:Nat,v = .int .i64 k/\k<=s.length/\Hid (p0=QeS s k)) (fun v=>s.length-(intOf v).toNat)
    case atStart=>exact ⟨i,rfl,hi,HC⟩
    case round =>
     clear HC;obtain ⟨k,rfl,hk,HE⟩:=hrel;by_cases hl:k<s.length
     ·have hat:=Za (QqO hl);have hcc:((s[k].toNat:Int)==94)=(94==s[k]):=Qg2 s[k] 94;cases h1:((94:UInt8)==s[k])
      ·rw [h1] at hcc;have HE2:Hid (p0=k):=Za (by rw [HE.out,hat.out,h1]<;>rfl);clear h1;go_wp2_with fail;go_meet;exact ⟨by rw [HE2.out],rfl⟩
      ·rw [h1] at hcc;have HE2:Hid (p0=QeS s (k+1)):=Za (by rw [HE.out,hat.out,h1]<;>rfl);clear h1;go_wp2_with fail;go_round
       case rel=>exact ⟨k+1,by go_num,by omega,HE2⟩
       case measure=>simp [intOf];omega
     ·have HE2:Hid (p0=k):=Za (by rw [HE.out];unfold QeS Qka;rw [List.drop_eq_nil_of_le (by omega)]<;>rfl);go_wp2_with fail;go_meet;exact ⟨by rw [HE2.out],rfl⟩
   ·have HC:Hid (p0=i+1):=Za (by rw [<- hp0,QqQ hb]);go_wp2_with fail;go_meet;exact ⟨by rw [HC.out];go_num,rfl⟩
  case rest =>
   obtain ⟨rfl,rfl⟩:=hcut;clear hp0 hX;by_cases hl:p0=s.length
   ·have HX2:=Za (HSTOP.out (.inl hl));have hlb:((p0:Int)==(s.length:Int))=true:=by rw [beq_iff_eq];omega
    clear hl HSTOP HGO;by_cases h0:(i:Int)<(p0:Int)
    ·go_wp2_with fail;go_ret;exact ⟨by rw [HX2.out,if_pos (by omega)];rfl,rfl⟩
    ·go_wp2_with fail;go_ret;exact ⟨by rw [HX2.out,if_neg (by omega)];rfl,rfl⟩
   ·have hlt:p0<s.length:=by omega
    have hlb:((p0:Int)==(s.length:Int))=false:=by rw [beq_eq_false_iff_ne];omega
    cases hlet:QaK s[p0]
    ·have HX2:=Za (HSTOP.out (.inr ⟨hlt,hlet⟩));clear HSTOP HGO hl;by_cases h0:(i:Int)<(p0:Int)
     ·go_wp2_with (go_at_call 189;refine (Qce _ _ hlet _).mono ?_;rintro e w' ⟨rfl,rfl⟩);go_ret;exact ⟨by rw [HX2.out,if_pos (by omega)];rfl,rfl⟩
     ·go_wp2_with (go_at_call 189;refine (Qce _ _ hlet _).mono ?_;rintro e w' ⟨rfl,rfl⟩);go_ret;exact ⟨by rw [HX2.out,if_neg (by omega)];rfl,rfl⟩
    ·have HX2:=Za (HGO.out hlt hlet);clear HSTOP HGO hl;go_wp2_with (go_at_call 189;refine (Qce _ _ hlet _).mono ?_;rintro e w' ⟨rfl,rfl⟩);clear hlet hlb;go_loop [5] (fun v=>∃ p:Nat,v = .int .i64 p/\p<=s.length/\Hid (X=Qgp (QdA (s.drop p)) p)) (fun v=>s.length-(intOf v).toNat)
     case atStart=>exact ⟨p0,rfl,hp1,HX2⟩
     case round =>
      clear HX2;obtain ⟨p,rfl,hp,HX⟩:=hrel;have HI:=Za (Qg1 s p w (by omega) (by omega));rw [QhI] at HI;obtain ⟨n,hn⟩:∃ n,Qbh (s.drop p)=n:=⟨_,rfl⟩;have hnl:n<=s.length-p:=by rw [<- hn,<- List.length_drop];exact Qfc _
      rw [hn] at HI;by_cases hl:p=s.length
      ·have hlb:((p:Int)==(s.length:Int))=true:=by rw [beq_iff_eq];omega
       have HX3:Hid (X = -1):=Za (by rw [HX.out,List.drop_eq_nil_of_le (by omega)]<;>rfl);clear hl hn;go_wp2_with fail;((with_reducible refine HI.out.mono ?_));rintro e w2 ⟨rfl,rfl⟩;go_wp2_with fail;go_ret;exact ⟨by rw [HX3.out];rfl,rfl⟩
      ·have hlt2:p<s.length:=by omega
       have hlb:((p:Int)==(s.length:Int))=false:=by rw [beq_eq_false_iff_ne];omega
       cases hlet:QaK s[p]
       ·have HX3:Hid (X = -1):=Za (by rw [HX.out,List.drop_eq_getElem_cons hlt2,QqR hlet]<;>rfl);clear hl hn;go_wp2_with fail;((with_reducible refine HI.out.mono ?_));rintro e w2 ⟨rfl,rfl⟩;go_wp2_with (go_at_call 189;refine (Qce _ _ hlet _).mono ?_;rintro e w' ⟨rfl,rfl⟩);go_ret;exact ⟨by rw [HX3.out];rfl,rfl⟩
       ·have hn1:1<=n:=by rw [<- hn,List.drop_eq_getElem_cons hlt2];exact Qd4 (by unfold idB;rw [hlet]<;>rfl)
        obtain ⟨sb,hsb⟩:∃ sb,Hid (Qa2 ((s.drop p).take n)=sb):=⟨_,Za rfl⟩;have HSEGF:Hid (sb=false->X = -1):=Za (by
         intro h;rw [<- hsb.out] at h;rw [HX.out];rw [<- hn] at h;rw [List.drop_eq_getElem_cons hlt2] at h |-;rw [QqS h]<;>rfl)
        have HEND:Hid (sb=true->(∀ t,s.drop (p+n)≠46::t)->X=((p+n:Nat):Int)):=Za (by
         intro h h2;rw [<- hsb.out] at h;rw [HX.out];rw [<- List.drop_drop] at h2;rw [<- hn] at h h2;have e:Qbh (s.drop p)=n:=hn;rw [List.drop_eq_getElem_cons hlt2] at h h2 e |-;rw [QqT hlet h h2,e]<;>rfl)
        have HDOT:Hid (sb=true->∀ t,s.drop (p+n)=46::t->X=Qgp (QdA t) (p+n+1)):=Za (by
         intro h t h2;rw [<- hsb.out] at h;rw [HX.out];rw [<- List.drop_drop] at h2;rw [<- hn] at h h2;have e:Qbh (s.drop p)=n:=hn;rw [List.drop_eq_getElem_cons hlt2] at h h2 e |-;rw [QqU hlet h h2,e];cases QdA t with
         | none=>rfl
         | some m=>unfold Qgp;simp only [Option.map_some];omega)
        have HSG:=Za (Qdy ((s.drop p).take n) sb hsb w (by rw [List.length_take,List.length_drop];omega));clear hn hl;go_wp2_with fail;((with_reducible refine HI.out.mono ?_));rintro e w2 ⟨rfl,rfl⟩;obtain ⟨q,hq⟩:∃ q,p+n=q:=⟨_,rfl⟩;have hqn:q-p=n:=by omega
        rw [hq] at HEND HDOT |-;go_wp2_with (go_at_call 189;refine (Qce _ _ hlet _).mono ?_;rintro e w' ⟨rfl,rfl⟩);((with_reducible refine HSG.out.mono ?_));rintro e w2 ⟨rfl,rfl⟩;clear hlet;cases sb
        ·have HX3:=Za (HSEGF.out rfl);go_wp2_with fail;go_ret;exact ⟨by rw [HX3.out];rfl,rfl⟩
        ·by_cases hql:q=s.length
         ·have hqb:((q:Int)==(s.length:Int))=true:=by rw [beq_iff_eq];omega
          have HX3:=Za (HEND.out rfl (by intro t;rw [List.drop_eq_nil_of_le (by omega)];simp));clear hql;go_wp2_with fail;go_ret;exact ⟨by rw [HX3.out];rfl,rfl⟩
         ·have hqb:((q:Int)==(s.length:Int))=false:=by rw [beq_eq_false_iff_ne];omega
          have hqlt:q<s.length:=by omega
          by_cases hdot:s[q]=46
          ·have hcc:((s[q].toNat:Int) != 46)=false:=by rw [hdot];rfl
           have HX3:=Za (HDOT.out rfl (s.drop (q+1)) (by rw [List.drop_eq_getElem_cons hqlt,hdot]));clear hdot hql;go_wp2_with fail;go_round
           case rel=>exact ⟨q+1,by go_num,by omega,HX3⟩
           case measure=>simp [intOf];omega
          ·have hcc:((s[q].toNat:Int) != 46)=true:=by
            rw [bne,show (46:Int)=((46:UInt8).toNat:Int) from rfl,Qg2];simpa using fun e=>hdot e.symm
           have HX3:=Za (HEND.out rfl (by intro t;rw [List.drop_eq_getElem_cons hqlt];intro e;injection e with e _;exact hdot e));clear hdot hql;go_wp2_with fail;go_ret;exact ⟨by rw [HX3.out];rfl,rfl⟩
end
section
open Go.RowKit
attribute [local go_sem] ByteArray.mk_append_mk Qac Qad Qae
theorem QmT {c:UInt8} {d:Nat} (h:QcM c=some d):d<16:=by
 have hc:=c.toNat_lt;unfold QcM Qba at h;split at h
 ·next h1=>injection h with h;simp at h1;omega
 ·split at h
  ·injection h with h;omega
  ·split at h
   ·injection h with h;omega
   ·cases h
def Qqd (o:Option Nat):Value:=.tuple #[.int .u64 (o.getD 0:Nat),.bool o.isSome]
theorem Qsk {s:List UInt8} {k v d:Nat} (h:k<s.length) (hd:QcM s[k]=some d):QiO (s.drop k) v=QiO (s.drop (k+1)) (v * 16+d):=by
 rw [List.drop_eq_getElem_cons h,QiO,hd]
theorem Quf {s:List UInt8} {k v:Nat} (h:k<s.length) (hd:QcM s[k]=none):QiO (s.drop k) v=none:=by
 rw [List.drop_eq_getElem_cons h,QiO,hd]
theorem Qsl {s:List UInt8} {k v:Nat} (h:s.length<=k):QiO (s.drop k) v=some v:=by
 rw [List.drop_eq_nil_of_le h];rfl
theorem Qxd (v d:Nat) (hv:v<1152921504606846976) (hd:d<16):bits .or .u64 ((v:Int) * 16) (d:Int)=((v * 16+d:Nat):Int):=by
 have hc:((v:Int) * 16)=((v * 16:Nat):Int):=by rw [Int.natCast_mul];rfl
 rw [hc,u64_or_nat _ _ (by omega) (by omega),nat_join 4 _ _ (by omega) (by omega)]
theorem Qsm {k:Nat} (h:k<16):16 ^ k<=1152921504606846976:=by
 have:16 ^ k<=16 ^ 15:=Nat.pow_le_pow_right (by omega) (by omega);omega
theorem Qsn {s:List UInt8} {k v:Nat} (h:k<s.length) (hd:Qba s[k]=false):Qey (s.drop k) v=none:=by
 rw [List.drop_eq_getElem_cons h,Qey,if_neg (by rw [hd];decide)]
theorem Qso {s:List UInt8} {k v:Nat} (h:k<s.length) (hd:Qba s[k]=true) (hb:(18446744073709551615-(s[k].toNat-48)) / 10<v):Qey (s.drop k) v=none:=by
 rw [List.drop_eq_getElem_cons h,Qey,if_pos hd,if_pos hb]
theorem Qsp {s:List UInt8} {k v:Nat} (h:k<s.length) (hd:Qba s[k]=true) (hb:¬ (18446744073709551615-(s[k].toNat-48)) / 10<v):Qey (s.drop k) v=Qey (s.drop (k+1)) (v * 10+(s[k].toNat-48)):=by
 rw [List.drop_eq_getElem_cons h,Qey,if_pos hd,if_neg hb]
theorem Qsq {s:List UInt8} {k v:Nat} (h:s.length<=k):Qey (s.drop k) v=some v:=by
 rw [List.drop_eq_nil_of_le h];rfl
theorem QcX {c:UInt8} (h:Qba c=true):48<=c.toNat/\c.toNat<=57:=by unfold Qba at h;simpa using h
end
section
open Go.RowKit
attribute [local go_sem] ByteArray.mk_append_mk Qac Qad Qae
theorem Qkd:∀ (s:List UInt8) (v r:Nat),v<=18446744073709551615->Qey s v=some r->v * 10 ^ s.length<=r/\r<=18446744073709551615
 | [],v,r,hv,h=>by
   rw [Qey] at h;injection h with h;subst h;simp;exact hv
 | c::t,v,r,hv,h=>by
   rw [Qey] at h;split at h
   ·next hc =>
    have hc2:=QcX hc;split at h
    ·cases h
    ·next hb =>
     have:=Qkd t _ r (by omega) h;refine ⟨Nat.le_trans ?_ this.1,this.2⟩;rw [List.length_cons,Nat.pow_succ,Nat.mul_comm (10 ^ t.length),<- Nat.mul_assoc];exact Nat.mul_le_mul_right _ (by omega)
   ·cases h
theorem QqW {s:List UInt8} (h:20<s.length) (h0:s.head?≠some 48):Qey s 0=none:=by
 cases s with
 | nil=>simp at h
 | cons c t =>
   rw [Qey];split
   ·next hc =>
    split
    ·rfl
    ·next hb =>
     have hc2:=QcX hc;have hne:c.toNat≠48:=fun e=>h0 (by
      have:c=48:=UInt8.toNat_inj.1 (by rw [e]<;>rfl);subst this;rfl)
     cases hr:Qey t (0 * 10+(c.toNat-48)) with
     | none=>rfl
     | some r =>
       exfalso;have:=Qkd t _ r (by omega) hr;have h10:10 ^ 20<=10 ^ t.length:=Nat.pow_le_pow_right (by omega) (by simp at h;omega);have h11:1 * 10 ^ t.length<=(0 * 10+(c.toNat-48)) * 10 ^ t.length:=Nat.mul_le_mul_right _ (by omega);omega
   ·rfl
def QgB:List UInt8->Bool
 | 48::120::_::_=>true
 | _=>false
theorem Qsr {s:List UInt8} (h:QgB s=true):Qkb s=if 18<s.length then none else QiO (s.drop 2) 0:=by
 unfold QgB at h;split at h
 ·next c r =>
  unfold Qkb;simp only [List.length_cons,List.drop_succ_cons,List.drop_zero];by_cases hl:18<r.length+1+1+1
  ·rw [if_pos (.inr (by omega)),if_pos hl]
  ·rw [if_neg (by simp;omega),if_neg hl]
 ·cases h
theorem Qss {s:List UInt8} (h:QgB s=false) (h0:s≠[]):Qkb s=if 20<s.length\/(1<s.length/\s.head?=some 48) then none else Qey s 0:=by
 unfold Qkb;split
 ·next d =>
  have hd:d=[]:=by cases d with
   | nil=>rfl
   | cons c t=>cases h
  subst hd;rfl
 ·rfl
 ·next t hn1 hn2 =>
  rw [if_pos (.inr ⟨by cases t with
   | nil=>exact absurd rfl hn2
   | cons c r=>simp,rfl⟩)]
 ·next hn1 hn2 hn3 =>
  have hh:s.head?≠some 48:=fun e=>by
   cases s with
   | nil=>cases e
   | cons c t =>
     simp at e;subst e;exact hn3 t rfl
  by_cases h20:20<s.length
  ·rw [if_pos (.inl h20),QqW h20 hh]
  ·rw [if_neg (by rintro (h|⟨_,h⟩);exact h20 h;exact hh h)]
end
section
open Go.RowKit
attribute [local go_sem] ByteArray.mk_append_mk Qac Qad Qae
theorem QjY {s:List UInt8} {k:Nat} (h:k<s.length) (d:UInt8) (b:Bool) (hb:decide (s[k]=d)=b):((s[k].toNat:Int)==(d.toNat:Int))=b:=by
 rw [Qg2,<- hb,Bool.eq_iff_iff,beq_iff_eq,decide_eq_true_eq];exact eq_comm
theorem Qh8 {s:List UInt8} (h:s.length<3):QgB s=false:=by
 unfold QgB;split
 ·next c r=>simp only [List.length_cons] at h;omega
 ·rfl
theorem Qny {s:List UInt8} (h:3<=s.length):QgB s=(decide (s[0]=48)&&decide (s[1]=120)):=by
 match s,h with
 | a::b::c::r,_ =>
   simp only [List.getElem_cons_zero,List.getElem_cons_succ];unfold QgB;split
   ·next heq=>injection heq with h1 h2;injection h2 with h2 h3;subst h1 h2;rfl
   ·next hn =>
    by_cases h1:a=48
    ·by_cases h2:b=120
     ·subst h1 h2;exact absurd rfl (hn c r)
     ·simp [h2]
    ·simp [h1]
theorem Qfe {c:UInt8} {x:Nat} (h:QcM c=some x):QoU c=x:=by unfold QoU;rw [h]
theorem QiP {c:UInt8} (h:QcM c=none):QoU c = -1:=by unfold QoU;rw [h]
set_option maxRecDepth 100000 in
theorem Qst (s:List UInt8) (w:World) (hs:s.length<=9223372036854775000) (hne:s≠[]) :
  Calls Tryz.prog 198 #[.string ⟨s.toArray⟩] w fun e w'=>e = .returned (Qqd (Qkb s))/\w=w':=by
 obtain ⟨X,hX⟩:∃ X,Hid (Qkb s=X):=⟨_,Za rfl⟩;rw [hX.out];have hpos:0<s.length:=by cases s with
  | nil=>exact absurd rfl hne
  | cons c t=>simp
 have HNE:Hid (s≠[]):=Za hne;clear hne;obtain ⟨b,hb⟩:∃ b,Hid (QgB s=b):=⟨_,Za rfl⟩;go_enter Tryz.func198,Tryz.ntmps198;go_upto_region 1 with fail;go_cut [21] (fun z wx=>z = .bool b/\w=wx)
 case first =>
  by_cases h3:(3:Int)<=(s.length:Int)
  ·have HB:Hid (b=(decide (s[0]=48)&&decide ((s[1]'(by omega))=120))):=Za (by rw [<- hb.out,Qny (by omega)]);cases h0:decide (s[0]=48)
   ·have hx0:((s[0].toNat:Int)==48)=false:=QjY hpos 48 false h0;rw [h0] at HB;clear h0;go_wp2_with fail;go_meet;exact ⟨by rw [HB.out];rfl,rfl⟩
   ·have hx0:((s[0].toNat:Int)==48)=true:=QjY hpos 48 true h0;rw [h0] at HB;clear h0;have h1':1<s.length:=by omega
    have hx1:((s[1].toNat:Int)==120)=decide (s[1]=120):=QjY h1' 120 _ rfl;go_wp2_with fail;go_meet;exact ⟨by rw [HB.out];rfl,rfl⟩
  ·have HB:Hid (b=false):=Za (by rw [<- hb.out];exact Qh8 (by omega));go_wp2_with fail;go_meet;exact ⟨by rw [HB.out],rfl⟩
 case rest =>
  obtain ⟨rfl,rfl⟩:=hcut;cases b
  ·have HX:Hid (X=if 20<s.length\/(1<s.length/\s.head?=some 48) then none else Qey s 0):=Za (by rw [<- hX.out];exact Qss hb.out HNE.out);clear hb;have hse:s.isEmpty=false:=by cases s with
    | nil=>simp at hpos
    | cons c t=>rfl
   obtain ⟨B,hB⟩:∃ B:Bool,Hid (decide (20<s.length\/(1<s.length/\s.head?=some 48))=B):=⟨_,Za rfl⟩;have HX2:Hid (X=if B=true then none else Qey s 0):=Za (by rw [HX.out,<- hB.out];simp only [decide_eq_true_eq]);clear HX;have hh0:s.head?=some s[0]:=by rw [List.head?_eq_getElem?,List.getElem?_eq_getElem hpos]
   have HB1:Hid (20<s.length->B=true):=Za (fun h=>by rw [<- hB.out,decide_eq_true_eq];exact .inl h);have HB2:Hid (¬ 20<s.length->1<s.length->B=decide (s[0]=48)):=Za (fun h h1=>by
    rw [<- hB.out,decide_eq_decide,hh0];constructor
    ·rintro (h'|⟨_,h'⟩)
     ·exact absurd h' h
     ·injection h'
    ·intro h';exact .inr ⟨h1,by rw [h']⟩)
   have HB3:Hid (¬ 1<s.length->B=false):=Za (fun h=>by
    rw [<- hB.out,decide_eq_false_iff_not];rintro (h'|⟨h',_⟩)<;>omega)
   clear hh0;go_upto_region 12 with fail;go_cut [61] (fun z wx=>z = .bool B/\w=wx)
   case first =>
    by_cases h20:(20:Int)<(s.length:Int)
    ·have HB:=Za (HB1.out (by omega));go_wp2_with fail;go_meet;exact ⟨by rw [HB.out],rfl⟩
    ·by_cases h1:(1:Int)<(s.length:Int)
     ·have HB:=Za (HB2.out (by omega) (by omega));have hx0:((s[0].toNat:Int)==48)=decide (s[0]=48):=QjY hpos 48 _ rfl;go_wp2_with fail;go_meet;exact ⟨by rw [HB.out],rfl⟩
     ·have HB:=Za (HB3.out (by omega));go_wp2_with fail;go_meet;exact ⟨by rw [HB.out],rfl⟩
   case rest =>
    obtain ⟨rfl,rfl⟩:=hcut;clear HB1 HB2 HB3 hB hse;cases B
    ·have HX:Hid (X=Qey s 0):=Za (by rw [HX2.out]<;>rfl);clear HX2;go_wp2_with fail;go_loop [7,6] (fun i v=>∃ (k:Nat) (V:Int),i = .int .i64 k/\v = .int .u64 V/\k<=s.length/\Hid (∃ n:Nat,V=n/\n<=18446744073709551615/\X=Qey (s.drop k) n)) (fun i v=>s.length-(intOf i).toNat)
     case atStart=>exact ⟨0,0,rfl,rfl,by omega,Za ⟨0,rfl,by omega,HX.out⟩⟩
     case round =>
      clear HX;obtain ⟨k,V,rfl,rfl,hk,HX⟩:=hrel;by_cases hl:k<s.length
      ·cases h1:Qba s[k]
       ·have HX2:Hid (X=none):=Za (by obtain ⟨n,_,_,h⟩:=HX.out;rw [h];exact Qsn hl h1);go_wp2_with (go_at_call 197;refine (Qfd _ _ h1 _).mono ?_;rintro e w' ⟨rfl,rfl⟩);refine bodyPost_ret (results_tmp2 rfl _ _ _) rfl ?_;exact ⟨by rw [HX2.out];rfl,rfl⟩
       ·obtain ⟨hd1,hd2⟩:=QcX h1;obtain ⟨d,hd⟩:∃ d:Int,Hid ((s[k].toNat:Int)-48=d):=⟨_,Za rfl⟩;have hdd:((s[k].toNat:Int)-48)=d:=hd.out;have hd3:0<=d:=by omega
        have hd4:d<=9:=by omega
        go_wp2_with (go_at_call 197;refine (Qfd _ _ h1 _).mono ?_;rintro e w' ⟨rfl,rfl⟩)
        ·next hov =>
         have HX2:Hid (X=none):=Za (by obtain ⟨n,h1',h2,h3⟩:=HX.out;rw [h3];exact Qso hl h1 (by omega));refine bodyPost_ret (results_tmp2 rfl _ _ _) rfl ?_;exact ⟨by rw [HX2.out];rfl,rfl⟩
        ·next hov =>
         have HX2:Hid (∃ n:Nat,V * 10+d=n/\n<=18446744073709551615/\X=Qey (s.drop (k+1)) n):=Za (by
          obtain ⟨n,h1',h2,h3⟩:=HX.out;have e:=Qsp (v:=n) hl h1 (by omega);refine ⟨n * 10+(s[k].toNat-48),by omega,by omega,by rw [h3,e]⟩)
         have hV:0<=V:=by obtain ⟨n,h1',_⟩:=HX.out;omega
         have e1:IntKind.u64.wrap (10 * V)=V * 10:=by rw [Int.mul_comm];exact IntWalk.u64_in _ ⟨by omega,by omega⟩
         have e2:IntKind.u64.wrap (V * 10+d)=V * 10+d:=IntWalk.u64_in _ ⟨by omega,by omega⟩;rw [e1,e2];go_round
         case rel=>exact ⟨k+1,V * 10+d,by go_num,rfl,by omega,HX2⟩
         case measure=>simp [intOf];omega
      ·have HX2:Hid (∃ n:Nat,V=n/\X=some n):=Za (by obtain ⟨n,h1,h2,h3⟩:=HX.out;exact ⟨n,h1,by rw [h3];exact Qsq (by omega)⟩);go_wp2_with fail;refine bodyPost_ret (results_tmp2 rfl _ _ _) rfl ?_;obtain ⟨n,h1,h2⟩:=HX2.out;exact ⟨by rw [h2,h1];rfl,rfl⟩
    ·have HX:Hid (X=none):=Za (by rw [HX2.out]<;>rfl);clear HX2;go_wp2_with fail;refine bodyPost_ret (results_tmp2 rfl _ _ _) rfl ?_;exact ⟨by rw [HX.out];rfl,rfl⟩
  ·have HX:Hid (X=if 18<s.length then none else QiO (s.drop 2) 0):=Za (by rw [<- hX.out];exact Qsr hb.out);have h3:3<=s.length:=Classical.byContradiction fun h=>by
    have:=Qh8 (s:=s) (by omega);rw [hb.out] at this;cases this
   clear hb;by_cases h18:(18:Int)<(s.length:Int)
   ·go_wp2_with fail;refine bodyPost_ret (results_tmp2 rfl _ _ _) rfl ?_;exact ⟨by rw [HX.out,if_pos (by omega)];rfl,rfl⟩
   ·have HX1:Hid (X=QiO (s.drop 2) 0):=Za (by rw [HX.out,if_neg (by omega)]);clear HX;go_wp2_with fail;go_loop [5,4] (fun i v=>∃ k n:Nat,i = .int .i64 k/\v = .int .u64 n/\2<=k/\k<=s.length/\Hid (n<16 ^ (k-2))/\Hid (X=QiO (s.drop k) n)) (fun i v=>s.length-(intOf i).toNat)
    case atStart=>exact ⟨2,0,rfl,rfl,by omega,by omega,Za (by decide),HX1⟩
    case round =>
     clear HX1;obtain ⟨k,n,rfl,rfl,hk2,hk,HN,HX⟩:=hrel;by_cases hl:k<s.length
     ·have HH:=Za (QgA s[k] w);cases hv:QcM s[k] with
      | none =>
        have HX2:Hid (X=none):=Za (by rw [HX.out];exact Quf hl hv);rw [QiP hv] at HH;clear hv;go_wp2_with fail;((with_reducible refine HH.out.mono ?_));rintro e w3 ⟨rfl,rfl⟩;go_wp2_with fail;refine bodyPost_ret (results_tmp2 rfl _ _ _) rfl ?_;exact ⟨by rw [HX2.out];rfl,rfl⟩
      | some x =>
        have hx:=QmT hv;have HX2:Hid (X=QiO (s.drop (k+1)) (n * 16+x)):=Za (by rw [HX.out];exact Qsk hl hv);rw [Qfe hv] at HH;clear hv;have hn:n<1152921504606846976:=Nat.lt_of_lt_of_le HN.out (Qsm (by omega));have hor:=Qxd n x hn hx;have HN2:Hid (n * 16+x<16 ^ (k+1-2)):=Za (by
         have:=HN.out;rw [show k+1-2=(k-2)+1 by omega,Nat.pow_succ];omega)
        go_wp2_with fail;((with_reducible refine HH.out.mono ?_));rintro e w3 ⟨rfl,rfl⟩;go_wp2_with fail;((with_reducible refine HH.out.mono ?_));rintro e w3 ⟨rfl,rfl⟩;go_wp2_with fail;go_round
        case rel=>exact ⟨k+1,n * 16+x,by go_num,by go_num,by omega,by omega,HN2,HX2⟩
        case measure=>simp [intOf];omega
     ·have HX2:Hid (X=some n):=Za (by rw [HX.out];exact Qsl (by omega));go_wp2_with fail;refine bodyPost_ret (results_tmp2 rfl _ _ _) rfl ?_;exact ⟨by rw [HX2.out];rfl,rfl⟩
end
end Go.Proofs.YtoohondkpddmcaaGreatDoor
