/- Tkn Tko Tkp Tkq -/
import Derived.Test.YtoohondkpddmcaaGreatDoorYzz
import Derived.Test.YtoohondkpddmcaaGreatDoorYaf
namespace Go.Proofs.YtoohondkpddmcaaGreatDoor
set_option maxHeartbeats 32000000
set_option linter.unusedVariables false
set_option linter.unusedSimpArgs false
section
open Go.RowKit
attribute [local go_sem] ByteArray.mk_append_mk Qah Qai Qag
def Qbz (a b:Int) (c:List UInt8) (d:Int):Value:=.agg #[.int .i64 a,.int .u64 b,.string ⟨c.toArray⟩,.int .i64 d]
def QhU (D:List UInt8):Option (Nat×Nat×List UInt8×Nat):=(Qcq D).map fun m=>(1,0,D.take m,m)
theorem QlM:∀ (f:Nat) (r:List UInt8) (m:Nat),Qc5 f r=some m->m<=r.length
 | 0,_,_,h=>by cases h
 | _+1,[],_,h=>by cases h
 | f+1,c::r,m,h=>by
   unfold Qc5 at h;split at h
   ·cases h
   ·split at h
    ·cases h
    ·split at h
     ·next t ht =>
      cases hs:Qc5 f t with
      | none=>rw [hs] at h;cases h
      | some k =>
        rw [hs] at h;have:=QlM f t k hs;have hl:=congrArg List.length ht;rw [List.length_drop,List.length_cons,List.length_cons] at hl;simp only [Option.map_some,Option.some.injEq] at h;simp only [List.length_cons];omega
     ·injection h with h;subst h;exact QeC _
theorem QiL {s:List UInt8} {m:Nat} (h:Qcq s=some m):m<=s.length:=by
 have hp:=Qom s;unfold Qcq at h;split at h
 ·split at h
  ·injection h with h;omega
  ·cases h
 ·next c r hd =>
  split at h
  ·cases hs:Qc5 (c::r).length (c::r) with
   | none=>rw [hs] at h;cases h
   | some k =>
     rw [hs] at h;have:=QlM _ _ k hs;rw [<- hd,List.length_drop] at this;simp only [Option.map_some,Option.some.injEq] at h;omega
  ·split at h
   ·injection h with h;omega
   ·cases h
theorem QeF {s:List UInt8} {p:Nat} (h:p<s.length):Qcr (s.drop p) =
  if Qa7 s[p]=true then (QiF ((s.drop p).take (Qbd (s.drop p)))).map fun v=>(3,v,[],Qbd (s.drop p))
  else if QaC s[p]=true then
   (if Qb8 ((s.drop p).take (Qbd (s.drop p)))=true then (if Qbd (s.drop p)<=32 then some (2,0,(s.drop p).take (Qbd (s.drop p)),Qbd (s.drop p)) else none)
    else QhU (s.drop p))
  else if s[p]=92\/s[p]=94 then QhU (s.drop p)
  else if s[p]=34 then (Qbm (s.drop (p+1)) []).map fun q=>(4,0,q.1,(s.drop p).length-q.2.length)
  else if Qdv s[p]=0 then none else some (Qdv s[p],0,[],1):=by
 rw [List.drop_eq_getElem_cons h];rfl
theorem Qm9 {s:List UInt8} {p:Nat} (h:p<s.length) (hc:idB s[p]=true):1<=Qbd (s.drop p):=by
 rw [List.drop_eq_getElem_cons h];exact QdP hc
end
section
open Go.RowKit
attribute [local go_sem] ByteArray.mk_append_mk Qah Qai Qag
theorem QgN:∀ (n:Nat) (s v x r:List UInt8),s.length<=n->Qbm s v=some (x,r)->r.length<s.length
 | 0,s,v,x,r,hs,h=>by
   have:s=[]:=List.eq_nil_of_length_eq_zero (by omega);subst this;cases h
 | n+1,[],v,x,r,hs,h=>by cases h
 | n+1,c::t,v,x,r,hs,h=>by
   simp only [List.length_cons] at hs |-;by_cases h1:c=34
   ·subst h1;rw [QhS] at h;split at h
    ·cases h
    ·injection h with h;injection h with _ h;subst h;omega
   ·by_cases h2:c=92
    ·subst h2;rw [Qko] at h;split at h
     ·next b m he =>
      have hm:=(Qsu he).1;have:=QgN n _ _ x r (by rw [List.length_drop,List.length_cons];omega) h;rw [List.length_drop,List.length_cons] at this;omega
     ·cases h
    ·rw [QhR h1 h2] at h;split at h
     ·have:=QgN n _ _ x r (by omega) h;omega
     ·cases h
end
section
open Go.RowKit
attribute [local go_sem] ByteArray.mk_append_mk Qah Qai Qag
def Qks (o:Option (Nat×Nat×List UInt8×Nat)) (p:Nat) (w:World) (e:Ending) (w':World):Prop :=
 (∃ (a b d n:Int) (c:List UInt8),e = .returned (.tuple #[Qbz a b c d,.int .i64 n])/\(o=none->n = -1)/\∀ x,o=some x->a=x.1/\b=x.2.1/\c=x.2.2.1/\d=(p:Nat)/\n=(p+x.2.2.2:Nat))/\Below w.heap.size w w'
theorem Qkt (tmps:Array Value) (w:World) (b:Nat) (c0 c1 c2 c3:Value) (h2:tmps.getD 4 undef = .pointer (some ⟨b,0,none⟩)) (hb:w.heap[b]?=some (.cells #[c0,c1,c2,c3] 34 (0,0))) :
  (results Tryz.f137 tmps).run Tryz.prog w = .ok (.tuple #[.agg #[c0,c1,c2,c3],tmps.getD 5 undef]) w:=by
 obtain ⟨e0,e1,e2,e3⟩:=Qac hb;have h2':tmps[4]?.getD undef = .pointer (some ⟨b,0,none⟩):=by rw [<- h2];simp
 simp [results];go_simp
theorem Qlc {c:UInt8} (h:Qa7 c=true):QaC c=false:=by
 unfold Qa7 at h;unfold QaC;rw [decide_eq_true_eq] at h;rw [decide_eq_false_iff_not];omega
set_option maxRecDepth 100000 in
theorem Qna (s:List UInt8) (p:Nat) (w:World) (hs:s.length<=4611686018427380000) (hp:p<s.length) (hd:Qa7 s[p]=false) (hl:QaC s[p]=true) :
  Calls Tryz.prog 137 #[.string ⟨s.toArray⟩,.int .i64 p] w (Qks (Qcr (s.drop p)) p w):=by
 have HI:Hid (Qcr (s.drop p)=if Qb8 ((s.drop p).take (Qbd (s.drop p)))=true then (if Qbd (s.drop p)<=32 then some (2,0,(s.drop p).take (Qbd (s.drop p)),Qbd (s.drop p)) else none) else QhU (s.drop p)):=Za (by rw [QeF hp,if_neg (by rw [hd];decide),if_pos hl]);obtain ⟨X,hX⟩:∃ X,Hid (Qcr (s.drop p)=X):=⟨_,Za rfl⟩;rw [hX.out] at HI |-;clear hX;have HW:=Za (fun w=>QfM s p w (by omega) (by omega));rw [Qge] at HW;have HNI:=Za (fun w=>Qkn s p w (by omega) (by omega));obtain ⟨n,hn⟩:∃ n,Qbd (s.drop p)=n:=⟨_,rfl⟩;have hnl:n<=s.length-p:=by rw [<- hn,<- List.length_drop];exact QeC _
 rw [hn] at HW HI;clear hn;have HL:=Za (fun w=>Qkk ((s.drop p).take n) w (by rw [List.length_take,List.length_drop];omega));obtain ⟨lw,hlw⟩:∃ o,Hid (Qb8 ((s.drop p).take n)=o):=⟨_,Za rfl⟩;rw [hlw.out] at HL HI;obtain ⟨O,hO⟩:∃ o,Hid (Qcq (s.drop p)=o):=⟨_,Za rfl⟩;unfold QhU at HI;rw [hO.out] at HNI HI;have HD:=Za (fun w=>Qb6 s[p] true hl w);obtain ⟨q,hq⟩:∃ q,p+n=q:=⟨_,rfl⟩;have hqn:q-p=n:=by omega
 have hpq:p<=q:=by omega
 have hql:q<=s.length:=by omega
 rw [hq] at HW;clear hd hl;have HQ:=Za hq;clear hq;go_enter Tryz.func137,Tryz.ntmps137;go_wp2_with fail;((with_reducible refine (HD.out _).mono ?_));rintro e w2 ⟨rfl,rfl⟩;go_wp2_with fail;((with_reducible refine (HW.out _).mono ?_));rintro e w2 ⟨rfl,rfl⟩;go_wp2_with fail;((with_reducible refine (HL.out _).mono ?_));rintro e w2 ⟨rfl,rfl⟩;clear HL;cases lw
 ·obtain rfl:X=O.map fun m=>(1,0,(s.drop p).take m,m):=by have:=HI.out;rw [if_neg (by decide)] at this;exact this
  clear HI HW;go_wp2_with fail;((with_reducible refine (HD.out _).mono ?_));rintro e w2 ⟨rfl,rfl⟩;go_wp2_with fail;((with_reducible refine (HNI.out _).mono ?_));rintro e w2 ⟨rfl,rfl⟩;clear hqn hpq hql;cases O with
  | none =>
    unfold Qfg;simp only [];go_wp2_with fail;exact bodyPost_ret (v:=.tuple #[Qbz 0 0 [] 0,.int .i64 (-1)]) (by simp [results,Tryz.results137,go_sem,Qbz]) rfl ⟨⟨0,0,0,-1,_,rfl,fun _=>rfl,fun x h=>by cases h⟩,Zb.alloc Zc _⟩
  | some m =>
    have hm:=QiL hO.out;rw [List.length_drop] at hm;clear hO;unfold Qfg;simp only [];obtain ⟨q,hq⟩:∃ q,p+m=q:=⟨_,rfl⟩;have hqn:q-p=m:=by omega
    have hpq:p<=q:=by omega
    have hql:q<=s.length:=by omega
    rw [hq];have HQ:=Za hq;clear hq;go_wp2_with fail;refine bodyPost_ret (v:=.tuple #[Qbz 1 0 ((s.drop p).take m) p,.int .i64 q]) (by simp [results,Tryz.results137,go_sem,Qbz,hqn]) rfl ⟨⟨1,0,p,q,_,rfl,fun h=>(by cases h),fun x h=>?_⟩,Zb.alloc Zc _⟩;injection h with h;subst h;exact ⟨rfl,rfl,rfl,rfl,by rw [<- HQ.out]⟩
 ·by_cases h32:(32:Int)<(q:Int)-(p:Int)
  ·obtain rfl:X=none:=by have:=HI.out;rw [if_pos rfl,if_neg (by omega)] at this;exact this
   clear HI;go_wp2_with fail;((with_reducible refine (HW.out _).mono ?_));rintro e w2 ⟨rfl,rfl⟩;go_wp2_with fail;exact bodyPost_ret (v:=.tuple #[Qbz 0 0 [] 0,.int .i64 (-1)]) (by simp [results,Tryz.results137,go_sem,Qbz]) rfl ⟨⟨0,0,0,-1,_,rfl,fun _=>rfl,fun x h=>by cases h⟩,Zb.alloc Zc _⟩
  ·obtain rfl:X=some (2,0,(s.drop p).take n,n):=by have:=HI.out;rw [if_pos rfl,if_pos (by omega)] at this;exact this
   clear HI;go_wp2_with fail;((with_reducible refine (HW.out _).mono ?_));rintro e w2 ⟨rfl,rfl⟩;go_wp2_with fail;refine bodyPost_ret (v:=.tuple #[Qbz 2 0 ((s.drop p).take n) p,.int .i64 q]) (by simp [results,Tryz.results137,go_sem,Qbz,hqn]) rfl ⟨⟨2,0,p,q,_,rfl,fun h=>(by cases h),fun x h=>?_⟩,Zb.alloc Zc _⟩;injection h with h;subst h;exact ⟨rfl,rfl,rfl,rfl,by rw [<- HQ.out]⟩
set_option maxRecDepth 100000 in
theorem QlN (s:List UInt8) (p:Nat) (w:World) (hs:s.length<=4611686018427380000) (hp:p<s.length) (hd:Qa7 s[p]=false) (hl:QaC s[p]=false) (h9:s[p]=92\/s[p]=94) :
  Calls Tryz.prog 137 #[.string ⟨s.toArray⟩,.int .i64 p] w (Qks (Qcr (s.drop p)) p w):=by
 have HI:Hid (Qcr (s.drop p)=QhU (s.drop p)):=Za (by rw [QeF hp,if_neg (by rw [hd];decide),if_neg (by rw [hl];decide),if_pos h9]);rw [HI.out];clear HI;have HNI:=Za (fun w=>Qkn s p w (by omega) (by omega));unfold QhU;obtain ⟨O,hO⟩:∃ o,Hid (Qcq (s.drop p)=o):=⟨_,Za rfl⟩;rw [hO.out] at HNI |-;have HD:=Za (fun w=>Qb6 s[p] false hl w);have HB9:Hid (((s[p].toNat:Int)==92)=true\/(((s[p].toNat:Int)==92)=false/\((s[p].toNat:Int)==94)=true)):=Za (by
  rcases QaO s[p] 92 92 rfl with ⟨_,h⟩|⟨e,h⟩
  ·exact .inl h
  ·rcases QaO s[p] 94 94 rfl with ⟨_,h'⟩|⟨e',h'⟩
   ·exact .inr ⟨h,h'⟩
   ·rcases h9 with h9|h9
    ·exact absurd h9 e
    ·exact absurd h9 e')
 clear hd hl h9;go_enter Tryz.func137,Tryz.ntmps137;go_wp2_with fail;((with_reducible refine (HD.out _).mono ?_));rintro e w2 ⟨rfl,rfl⟩;go_wp2_with fail;((with_reducible refine (HD.out _).mono ?_));rintro e w2 ⟨rfl,rfl⟩;clear HD;rcases HB9.out with h92|⟨h92,h94⟩
 all_goals
  go_wp2_with fail;((with_reducible refine (HNI.out _).mono ?_));rintro e w2 ⟨rfl,rfl⟩;cases O with
  | none =>
    unfold Qfg;simp only [];go_wp2_with fail;exact bodyPost_ret (v:=.tuple #[Qbz 0 0 [] 0,.int .i64 (-1)]) (by simp [results,Tryz.results137,go_sem,Qbz]) rfl ⟨⟨0,0,0,-1,_,rfl,fun _=>rfl,fun x h=>by cases h⟩,Zb.alloc Zc _⟩
  | some m =>
    have hm:=QiL hO.out;rw [List.length_drop] at hm;clear hO;unfold Qfg;simp only [];obtain ⟨q,hq⟩:∃ q,p+m=q:=⟨_,rfl⟩;have hqn:q-p=m:=by omega
    have hpq:p<=q:=by omega
    have hql:q<=s.length:=by omega
    rw [hq];have HQ:=Za hq;clear hq;go_wp2_with fail;refine bodyPost_ret (v:=.tuple #[Qbz 1 0 ((s.drop p).take m) p,.int .i64 q]) (by simp [results,Tryz.results137,go_sem,Qbz,hqn]) rfl ⟨⟨1,0,p,q,_,rfl,fun h=>(by cases h),fun x h=>?_⟩,Zb.alloc Zc _⟩;injection h with h;subst h;exact ⟨rfl,rfl,rfl,rfl,by rw [<- HQ.out]⟩
set_option maxRecDepth 100000 in
theorem QlO (s:List UInt8) (p:Nat) (w:World) (hs:s.length<=4611686018427380000) (hp:p<s.length) (hd:Qa7 s[p]=true) :
  Calls Tryz.prog 137 #[.string ⟨s.toArray⟩,.int .i64 p] w (Qks (Qcr (s.drop p)) p w):=by
 have HI:Hid (Qcr (s.drop p)=(QiF ((s.drop p).take (Qbd (s.drop p)))).map fun v=>(3,v,[],Qbd (s.drop p))):=Za (by rw [QeF hp,if_pos hd]);rw [HI.out];clear HI;have hw1:=Qm9 hp (by unfold idB;rw [hd];simp);have HW:=Za (fun w=>QfM s p w (by omega) (by omega));rw [Qge] at HW;obtain ⟨n,hn⟩:∃ n,Qbd (s.drop p)=n:=⟨_,rfl⟩;have hnl:n<=s.length-p:=by rw [<- hn,<- List.length_drop];exact QeC _
 rw [hn] at HW hw1 |-;clear hn;have HV:=Za (fun w=>QqJ ((s.drop p).take n) w (by rw [List.length_take,List.length_drop];omega) (by
  intro h;have:=congrArg List.length h;rw [List.length_take,List.length_drop,List.length_nil] at this;omega))
 obtain ⟨o,ho⟩:∃ o,Hid (QiF ((s.drop p).take n)=o):=⟨_,Za rfl⟩;rw [ho.out] at HV |-;have HD:=Za (fun w=>Qb6 s[p] false (Qlc hd) w);have HE:=Za (fun w=>QeD s[p] true hd w);have h92:((s[p].toNat:Int)==92)=false:=by
  obtain ⟨k1,k2⟩:=QcQ hd;rw [beq_eq_false_iff_ne];omega
 have h94:((s[p].toNat:Int)==94)=false:=by
  obtain ⟨k1,k2⟩:=QcQ hd;rw [beq_eq_false_iff_ne];omega
 obtain ⟨q,hq⟩:∃ q,p+n=q:=⟨_,rfl⟩;have hqn:q-p=n:=by omega
 have hpq:p<=q:=by omega
 have hql:q<=s.length:=by omega
 rw [hq] at HW;have HQ:=Za hq;clear hd hq ho hw1;go_enter Tryz.func137,Tryz.ntmps137;go_wp2_with fail;((with_reducible refine (HD.out _).mono ?_));rintro e w2 ⟨rfl,rfl⟩;go_wp2_with fail;((with_reducible refine (HD.out _).mono ?_));rintro e w2 ⟨rfl,rfl⟩;go_wp2_with fail;((with_reducible refine (HE.out _).mono ?_));rintro e w2 ⟨rfl,rfl⟩;clear HD HE;go_wp2_with fail;((with_reducible refine (HW.out _).mono ?_));rintro e w2 ⟨rfl,rfl⟩;go_wp2_with fail;((with_reducible refine (HV.out _).mono ?_));rintro e w2 ⟨rfl,rfl⟩;unfold Qon;cases o with
 | none =>
   simp only [Option.getD_none,Option.isSome_none];go_wp2_with fail;exact bodyPost_ret (v:=.tuple #[Qbz 0 0 [] 0,.int .i64 (-1)]) (by simp [results,Tryz.results137,go_sem,Qbz]) rfl ⟨⟨0,0,0,-1,_,rfl,fun _=>rfl,fun x h=>by cases h⟩,Zb.alloc Zc _⟩
 | some v =>
   simp only [Option.getD_some,Option.isSome_some];go_wp2_with fail;refine bodyPost_ret (v:=.tuple #[Qbz 3 v [] p,.int .i64 q]) (by simp [results,Tryz.results137,go_sem,Qbz]) rfl ⟨⟨3,v,p,q,_,rfl,fun h=>(by cases h),fun x h=>?_⟩,Zb.alloc Zc _⟩;injection h with h;subst h;exact ⟨rfl,rfl,rfl,rfl,by rw [<- HQ.out]⟩
set_option maxRecDepth 100000 in
theorem QlP (s:List UInt8) (p:Nat) (w:World) (hs:s.length<=4611686018427380000) (hp:p<s.length) (h9:s[p]=34) :
  Calls Tryz.prog 137 #[.string ⟨s.toArray⟩,.int .i64 p] w (Qks (Qcr (s.drop p)) p w):=by
 have hd:Qa7 s[p]=false:=by rw [h9];rfl
 have hl:QaC s[p]=false:=by rw [h9];rfl
 have HI:Hid (Qcr (s.drop p)=(Qbm (s.drop (p+1)) []).map fun q=>(4,0,q.1,(s.drop p).length-q.2.length)):=Za (by rw [QeF hp,if_neg (by rw [hd];decide),if_neg (by rw [hl];decide),if_neg (by rw [h9];decide),if_pos h9]);rw [HI.out];clear HI;have HT:=Za (fun w=>Qpe s p w hs hp);obtain ⟨O,hO⟩:∃ o,Hid (Qbm (s.drop (p+1)) []=o):=⟨_,Za rfl⟩;rw [hO.out] at HT |-;have HD:=Za (fun w=>QeD s[p] false hd w);have HS:=Za (fun w=>Qb6 s[p] false hl w);have h34:((s[p].toNat:Int)==34)=true:=by rw [h9];rfl
 have h92:((s[p].toNat:Int)==92)=false:=by rw [h9];rfl
 have h94:((s[p].toNat:Int)==94)=false:=by rw [h9];rfl
 clear hd hl h9;go_enter Tryz.func137,Tryz.ntmps137;go_wp2_with fail;((with_reducible refine (HS.out _).mono ?_));rintro e w2 ⟨rfl,rfl⟩;go_wp2_with fail;((with_reducible refine (HS.out _).mono ?_));rintro e w2 ⟨rfl,rfl⟩;go_wp2_with fail;((with_reducible refine (HD.out _).mono ?_));rintro e w2 ⟨rfl,rfl⟩;clear HD HS;go_wp2_with fail;((with_reducible refine (HT.out _).mono ?_));rintro e w2 ⟨rfl,hb⟩;obtain ⟨hb1,hn⟩:=QoW hb;clear hb;have HB:=Za hb1;have HN:=Za hn;obtain ⟨c0,c1,c2,c3⟩:=Qac hn;have f0:=Qam hn 0;have f1:=Qam hn 1;have f2:=Qam hn 2;have f3:=Qam hn 3;clear hn hb1;cases O with
 | none =>
   simp only [QgM];go_wp2_with fail;exact bodyPost_ret (Qkt _ _ _ _ _ _ _ rfl (Qik HN.out _ _ _ _)) rfl ⟨⟨4,0,p,-1,[],rfl,fun _=>rfl,fun x h=>by cases h⟩,Qil HB.out Zc _ _ _ _⟩
 | some q =>
   obtain ⟨v,r⟩:=q;simp only [QgM];have hr:=QgN _ _ _ _ _ Zc hO.out;rw [List.length_drop] at hr;obtain ⟨k,hk⟩:∃ k,s.length-r.length=k:=⟨_,rfl⟩;rw [hk];go_wp2_with fail;refine bodyPost_ret (Qkt _ _ _ _ _ _ _ rfl (Qik HN.out _ _ _ _)) rfl ⟨⟨4,0,p,k,v,rfl,fun h=>(by cases h),fun x h=>?_⟩,Qil HB.out Zc _ _ _ _⟩;injection h with h;subst h;refine ⟨rfl,rfl,rfl,rfl,?_⟩;simp only [List.length_drop];omega
set_option maxRecDepth 100000 in
theorem QlQ (s:List UInt8) (p:Nat) (w:World) (hs:s.length<=4611686018427380000) (hp:p<s.length) (hd:Qa7 s[p]=false) (hl:QaC s[p]=false) (h92:s[p]≠92) (h94:s[p]≠94) (h34:s[p]≠34) :
  Calls Tryz.prog 137 #[.string ⟨s.toArray⟩,.int .i64 p] w (Qks (Qcr (s.drop p)) p w):=by
 have HI:Hid (Qcr (s.drop p)=if Qdv s[p]=0 then none else some (Qdv s[p],0,[],1)):=Za (by rw [QeF hp,if_neg (by rw [hd];decide),if_neg (by rw [hl];decide),if_neg (by rintro (h|h);exact h92 h;exact h94 h),if_neg h34]);have HP:=Za (fun w=>Qm0 s[p] w);obtain ⟨K,hK⟩:∃ K,Qdv s[p]=K:=⟨_,rfl⟩;rw [hK] at HI HP;obtain ⟨X,hX⟩:∃ X,Hid (Qcr (s.drop p)=X):=⟨_,Za rfl⟩;rw [hX.out] at HI |-;clear hX hK;have HD:=Za (fun w=>QeD s[p] false hd w);have HS:=Za (fun w=>Qb6 s[p] false hl w);have k34:((s[p].toNat:Int)==34)=false:=((QaO s[p] 34 34 rfl).resolve_left fun h=>h34 h.1).2;have k92:((s[p].toNat:Int)==92)=false:=((QaO s[p] 92 92 rfl).resolve_left fun h=>h92 h.1).2;have k94:((s[p].toNat:Int)==94)=false:=((QaO s[p] 94 94 rfl).resolve_left fun h=>h94 h.1).2;clear hd hl h92 h94 h34;go_enter Tryz.func137,Tryz.ntmps137;go_wp2_with fail;((with_reducible refine (HS.out _).mono ?_));rintro e w2 ⟨rfl,rfl⟩;go_wp2_with fail;((with_reducible refine (HS.out _).mono ?_));rintro e w2 ⟨rfl,rfl⟩;go_wp2_with fail;((with_reducible refine (HD.out _).mono ?_));rintro e w2 ⟨rfl,rfl⟩;clear HD HS;go_wp2_with fail;((with_reducible refine (HP.out _).mono ?_));rintro e w2 ⟨rfl,rfl⟩;by_cases k0:(0:Int)<(K:Int)
 ·obtain rfl:X=some (K,0,[],1):=by rw [HI.out,if_neg (by omega)]
  clear HI;go_wp2_with fail;((with_reducible refine (HP.out _).mono ?_));rintro e w2 ⟨rfl,rfl⟩;go_wp2_with fail;refine bodyPost_ret (v:=.tuple #[Qbz K 0 [] p,.int .i64 ((p:Int)+1)]) (by simp [results,Tryz.results137,go_sem,Qbz]) rfl ⟨⟨K,0,p,_,_,rfl,fun h=>(by cases h),fun x h=>?_⟩,Zb.alloc Zc _⟩;injection h with h;subst h;exact ⟨rfl,rfl,rfl,rfl,by simp⟩
 ·obtain rfl:X=none:=by rw [HI.out,if_pos (by omega)]
  clear HI;go_wp2_with fail;exact bodyPost_ret (v:=.tuple #[Qbz 0 0 [] 0,.int .i64 (-1)]) (by simp [results,Tryz.results137,go_sem,Qbz]) rfl ⟨⟨0,0,0,-1,_,rfl,fun _=>rfl,fun x h=>by cases h⟩,Zb.alloc Zc _⟩
theorem Qph (s:List UInt8) (p:Nat) (w:World) (hs:s.length<=4611686018427380000) (hp:p<s.length) :
  Calls Tryz.prog 137 #[.string ⟨s.toArray⟩,.int .i64 p] w (Qks (Qcr (s.drop p)) p w):=by
 cases hd:Qa7 s[p]
 ·cases hl:QaC s[p]
  ·by_cases h9:s[p]=92\/s[p]=94
   ·exact QlN s p w hs hp hd hl h9
   ·by_cases h34:s[p]=34
    ·exact QlP s p w hs hp h34
    ·exact QlQ s p w hs hp hd hl (fun h=>h9 (.inl h)) (fun h=>h9 (.inr h)) h34
  ·exact Qna s p w hs hp hd hl
 ·exact QlO s p w hs hp hd
end
section
open Go.RowKit
theorem Qf4:∀ (d r:List UInt8),QbO d=some r->∃ k,k<=d.length/\r=d.drop k
 | [],r,h=>by cases h
 | c::t,r,h=>by
   unfold QbO at h;split at h
   ·cases h
   ·next heq =>
    injection heq with h1 h2;subst h1 h2;injection h with h;subst h;exact ⟨2,by simp,rfl⟩
   ·next heq =>
    injection heq with h1 h2;subst h1 h2;obtain ⟨k,hk,e⟩:=Qf4 _ r h;exact ⟨k+1,by simp;omega,by rw [e];rfl⟩
theorem QgO:∀ d:List UInt8,∃ k,k<=d.length/\d.dropWhile (· != 10)=d.drop k
 | []=>⟨0,by simp,rfl⟩
 | c::t=>by
   rw [List.dropWhile_cons];split
   ·obtain ⟨k,hk,e⟩:=QgO t;exact ⟨k+1,by simp;omega,by rw [e];rfl⟩
   ·exact ⟨0,by simp,rfl⟩
theorem QdH:∀ (f:Nat) (d:List UInt8),∃ k,k<=d.length/\(Qef f d).1=d.drop k
 | 0,d=>⟨0,by simp,rfl⟩
 | f+1,d=>by
   unfold Qef;split
   ·exact ⟨0,by simp,rfl⟩
   ·next r =>
    obtain ⟨k1,hk1,e1⟩:=QgO (47::47::r);obtain ⟨k2,hk2,e2⟩:=QdH f ((47::47::r).dropWhile (· != 10));rw [e2];rw [e1] at hk2 |-;rw [List.length_drop] at hk2;exact ⟨k1+k2,by omega,by rw [List.drop_drop]⟩
   ·next r =>
    split
    ·next t ht =>
     obtain ⟨k1,hk1,e1⟩:=Qf4 _ _ ht;obtain ⟨k2,hk2,e2⟩:=QdH f t;rw [e2];rw [e1] at hk2 |-;rw [List.length_drop] at hk2;exact ⟨2+(k1+k2),by simp;omega,by rw [show 2+(k1+k2)=k1+k2+2 by omega,List.drop_drop];rfl⟩
    ·exact ⟨0,by simp,rfl⟩
   ·next c r _ _ =>
    split
    ·obtain ⟨k2,hk2,e2⟩:=QdH f r;exact ⟨k2+1,by simp;omega,by rw [e2];rfl⟩
    ·exact ⟨0,by simp,rfl⟩
theorem Qld (d:List UInt8):∃ k,k<=d.length/\(QaQ d).1=d.drop k:=QdH _ d
theorem Qe4 (s:List UInt8) (p:Nat) (hp:p<=s.length):∃ q,p<=q/\q<=s.length/\(QaQ (s.drop p)).1=s.drop q/\s.length-(QaQ (s.drop p)).1.length=q:=by
 obtain ⟨k,hk,e⟩:=Qld (s.drop p);rw [List.length_drop] at hk;refine ⟨p+k,by omega,by omega,by rw [e,List.drop_drop],?_⟩;rw [e,List.drop_drop,List.length_drop];omega
theorem Qpi:∀ (f:Nat) (r:List UInt8) (m:Nat),Qc5 f r=some m->1<=m
 | 0,_,_,h=>by cases h
 | _+1,[],_,h=>by cases h
 | f+1,c::r,m,h=>by
   unfold Qc5 at h;split at h
   ·cases h
   ·next hl =>
    have hw:1<=Qbd (c::r):=QdP (by unfold idB;rw [Bool.not_eq_false] at hl;rw [hl]<;>rfl);split at h
    ·cases h
    ·split at h
     ·next t ht =>
      cases hs:Qc5 f t with
      | none=>rw [hs] at h;cases h
      | some k =>
        rw [hs] at h;simp only [Option.map_some,Option.some.injEq] at h;omega
     ·injection h with h;omega
theorem Qpj {s:List UInt8} {m:Nat} (h:Qcq s=some m):1<=m:=by
 unfold Qcq at h;split at h
 ·split at h
  ·injection h with h;omega
  ·cases h
 ·next c r hd =>
  split at h
  ·cases hs:Qc5 (c::r).length (c::r) with
   | none=>rw [hs] at h;cases h
   | some k =>
     rw [hs] at h;have:=Qpi _ _ k hs;simp only [Option.map_some,Option.some.injEq] at h;omega
  ·split at h
   ·injection h with h;omega
   ·cases h
theorem QlR {d:List UInt8} {x:Nat×Nat×List UInt8×Nat} (h:QhU d=some x):1<=x.2.2.2/\x.2.2.2<=d.length:=by
 unfold QhU at h;cases hn:Qcq d with
 | none=>rw [hn] at h;cases h
 | some m =>
   rw [hn] at h;injection h with h;subst h;exact ⟨Qpj hn,QiL hn⟩
theorem Qfr {d:List UInt8} {x:Nat×Nat×List UInt8×Nat} (h:Qcr d=some x):1<=x.2.2.2/\x.2.2.2<=d.length:=by
 cases d with
 | nil=>cases h
 | cons c r =>
   have h':=QeF (s:=c::r) (p:=0) (by simp);simp only [List.drop_zero,List.getElem_cons_zero,Nat.zero_add,List.drop_succ_cons] at h';rw [h'] at h;clear h';split at h
   ·next hd =>
    cases hv:QiF ((c::r).take (Qbd (c::r))) with
    | none=>rw [hv] at h;cases h
    | some v =>
      rw [hv] at h;injection h with h;subst h;exact ⟨QdP (by unfold idB;rw [hd];simp),QeC _⟩
   ·split at h
    ·next hl =>
     split at h
     ·split at h
      ·injection h with h;subst h;exact ⟨QdP (by unfold idB;rw [hl]<;>rfl),QeC _⟩
      ·cases h
     ·exact QlR h
    ·split at h
     ·exact QlR h
     ·split at h
      ·cases ht:Qbm r [] with
       | none=>rw [ht] at h;cases h
       | some q =>
         rw [ht] at h;injection h with h;subst h;have:=QgN _ _ _ q.1 q.2 Zc ht;simp only [List.length_cons];omega
      ·split at h
       ·cases h
       ·injection h with h;subst h;simp
theorem QiM (s:List UInt8):∀ (f g p:Nat) (acc:List Tok),p<=s.length->s.length+1<=f+p->s.length+1<=g+p->QdD s f p acc=QdD s g p acc
 | 0,_,p,_,hp,h,_=>absurd h (by omega)
 | _+1,0,p,_,hp,_,h=>absurd h (by omega)
 | f+1,g+1,p,acc,hp,h1,h2=>by
   obtain ⟨q,hq1,hq2,e1,e2⟩:=Qe4 s p hp;unfold QdD;rw [e2,e1];split
   ·rfl
   ·split
    ·rfl
    ·split
     ·rfl
     ·next k v t n hi =>
      have:=Qfr hi;rw [List.length_drop] at this;simp only [] at this;exact QiM s f g (q+n) _ (by omega) (by omega) (by omega)
def Qei (s:List UInt8) (p:Nat) (acc:List Tok):List Tok×Nat×Nat:=QdD s (s.length+1) p acc
theorem Qnb {s:List UInt8} {p q:Nat} {acc:List Tok} (hq:s.length-(QaQ (s.drop p)).1.length=q) (h:(QaQ (s.drop p)).2=false):Qei s p acc=([],q,2):=by
 unfold Qei;rw [QdD,if_pos h,hq]
theorem Qnc {s:List UInt8} {p:Nat} {acc:List Tok} (h:(QaQ (s.drop p)).2=true) (h1:(QaQ (s.drop p)).1=[]):Qei s p acc=(acc,0,0):=by
 unfold Qei;rw [QdD,if_neg (by rw [h];decide),if_pos h1]
theorem Qpk {s:List UInt8} {p q:Nat} {acc:List Tok} (hq:s.length-(QaQ (s.drop p)).1.length=q) (h:(QaQ (s.drop p)).2=true) (h0:(QaQ (s.drop p)).1=s.drop q) (h1:q<s.length) (h2:Qcr (s.drop q)=none):Qei s p acc=([],q,2):=by
 unfold Qei;rw [QdD,if_neg (by rw [h];decide),if_neg (by rw [h0];intro e;have:=congrArg List.length e;rw [List.length_drop,List.length_nil] at this;omega),hq,h0,h2]
theorem Qnd {s:List UInt8} {p q k v n:Nat} {t:List UInt8} {acc:List Tok} (hp:p<=q) (hq:s.length-(QaQ (s.drop p)).1.length=q) (h:(QaQ (s.drop p)).2=true) (h0:(QaQ (s.drop p)).1=s.drop q) (h1:q<s.length) (h2:Qcr (s.drop q)=some (k,v,t,n)):Qei s p acc=Qei s (q+n) (acc++[⟨k,v,t,q⟩]):=by
 have hn:1<=n/\n<=(s.drop q).length:=Qfr h2;rw [List.length_drop] at hn;unfold Qei;rw [QdD,if_neg (by rw [h];decide),if_neg (by rw [h0];intro e;have:=congrArg List.length e;rw [List.length_drop,List.length_nil] at this;omega),hq,h0,h2];exact QiM s _ _ _ _ (by omega) (by omega) (by omega)
theorem Qne {s:List UInt8} (h:65536<s.length):Qeg s=([],0,11):=by unfold Qeg;rw [if_pos h]
theorem QqP {s:List UInt8} (h:¬ 65536<s.length):Qeg s=Qei s 0 []:=by unfold Qeg Qei;rw [if_neg h]
def QbM:List Tok->List Value
 | []=>[]
 | t::r=>.int .i64 t.kind::.int .u64 t.num::.string ⟨t.str.toArray⟩::.int .i64 t.pos::QbM r
theorem QgP:∀ l m:List Tok,QbM (l++m)=QbM l++QbM m
 | [],m=>rfl
 | t::r,m=>by rw [List.cons_append,QbM,QbM,QgP r m];rfl
theorem QhV:∀ (l:List Tok) (i:Nat) (h:i<l.length),(QbM l)[i * 4]?=some (.int .i64 l[i].kind)/\(QbM l)[i * 4+1]?=some (.int .u64 l[i].num)/\(QbM l)[i * 4+2]?=some (.string ⟨l[i].str.toArray⟩)/\(QbM l)[i * 4+3]?=some (.int .i64 l[i].pos)
 | t::r,0,_=>⟨rfl,rfl,rfl,rfl⟩
 | t::r,i+1,h=>by
   have:=QhV r i (by simpa using h);rw [show (i+1) * 4=i * 4+4 by omega];exact this
theorem Qsx:(Tryz.prog.info? 34).map (fun i=>(i.zero,i.size,i.bytes))=some (some (.agg #[.int .i64 0,.int .u64 0,.string ⟨#[]⟩,.int .i64 0]),4,40):=by kernel_rfl
def Toks (w:World) (B:Nat) (v:Value) (l:List Tok):Prop:=w.ownsRow B 34 4 v l.length (QbM l)
theorem Toks.nil (w:World) (B:Nat):Toks w B (.slice none 0 0) []:=⟨rfl,.inl ⟨rfl,rfl⟩⟩
theorem Toks.below {w w':World} {B:Nat} {v:Value} {l:List Tok} (h:Toks w B v l) (hb:Below w.heap.size w w'):Toks w' B v l:=QbH h hb
theorem Toks.base {w:World} {B B':Nat} {v:Value} {l:List Tok} (h:Toks w B v l) (hB:B'<=B):Toks w B' v l:=Qfm h hB
theorem Toks.form {w:World} {B:Nat} {v:Value} {l:List Tok} (h:Toks w B v l):∃ a c,v = .slice a l.length c:=by
 rcases h.2 with ⟨rfl,h0⟩|⟨g,cap,cur,rfl,_⟩
 ·exact ⟨none,0,by rw [h0]⟩
 ·exact ⟨_,cap,rfl⟩
theorem Toks.kept {w w1 w2:World} {B B0:Nat} {v:Value} {l:List Tok} (ho:Toks w1 B v l) (h:Below B0 w w1) (hg:w1.grownBy w2 v.ownBlock) (hB:B0<=w1.heap.size) (hB2:B0<=B):Below B0 w w2 :=
 h.grown hg hB (fun k hk=>Nat.le_trans hB2 (QaN ho hk))
theorem Toks.cells {w:World} {B:Nat} {a:Option Addr} {n c:Nat} {l:List Tok} (h:Toks w B (.slice a n c) l) (i:Nat) (hi:i<l.length):∃ b,a=some ⟨b,0,none⟩/\B<=b /\
  w.cell? ⟨b,i * 4,none⟩=some (.int .i64 l[i].kind)/\w.cell? ⟨b,i * 4+1,none⟩=some (.int .u64 l[i].num)/\w.cell? ⟨b,i * 4+2,none⟩=some (.string ⟨l[i].str.toArray⟩)/\w.cell? ⟨b,i * 4+3,none⟩=some (.int .i64 l[i].pos):=by
 obtain ⟨h1,h2⟩:=h;rcases h2 with ⟨hv,h0⟩|⟨g,cap,cur,hv,hb,hg,hn,hm,hs,ht⟩
 ·omega
 ·injection hv with e1 e2 e3;obtain ⟨k0,k1,k2,k3⟩:=QhV l i hi;rw [<- ht] at k0 k1 k2 k3;rw [List.getElem?_take,if_pos (by omega)] at k0 k1 k2 k3;refine ⟨g,e1,hb,?_,?_,?_,?_⟩
  ·rw [cell_of_row w g _ cur _ (0,0) hg];simpa using k0
  ·rw [cell_of_row w g _ cur _ (0,0) hg];simpa using k1
  ·rw [cell_of_row w g _ cur _ (0,0) hg];simpa using k2
  ·rw [cell_of_row w g _ cur _ (0,0) hg];simpa using k3
theorem QgQ {w:World} {ops:Array Oper} {rest:List Oper} {o:Oper} {a:Act} {Q:Exit->Act->World->Prop} (hgd:o.guard=none) (s x:Operand)
  (ho:o.op = .call { callee:=.builtin .append,args:=#[s,x],argTypes:=#[26,26] })
  (B:Nat) (v:Value) (l:List Tok) (hs:a.eval s=v) (hown:Toks w B v l) (g:Nat) (t:Tok)
  (hx:a.eval x = .slice (some ⟨g,0,none⟩) 1 1) (hb:w.heap[g]?=some (.cells #[.int .i64 t.kind,.int .u64 t.num,.string ⟨t.str.toArray⟩,.int .i64 t.pos] 34 (0,0))) (hlen:l.length<=1000000) (hB:B<=w.heap.size)
  (h:∀ v' w',Toks w' B v' (l++[t])->w.grownBy w' v.ownBlock->wpList Tryz.prog ops Q rest (a.put o.dst v') w'):wpList Tryz.prog ops Q (o::rest) a w:=by
 obtain ⟨i0,hi,hz0,hz1,hz2⟩:=info_parts Qsx;obtain ⟨c0,c1,c2,c3⟩:=Qac hb;refine wpList_append_own _ hgd s x _ ho B 34 i0 _ 4 40 Tryz.underlying26 hi hz0 hz1 hz2 rfl (by decide) v l.length _ hs hown ⟨g,0,none⟩ 1 1 (QbM [t]) hx rfl ?_ ?_ (by unfold maxLen;omega) (by omega) hB ?_
 ·intro j z hj
  match j,hj with
  | 0,hj=>cases hj;exact c0
  | 1,hj=>cases hj;exact c1
  | 2,hj=>cases hj;exact c2
  | 3,hj=>cases hj;exact c3
 ·intro z hz;simp only [QbM,List.mem_cons,List.not_mem_nil,or_false] at hz;rcases hz with rfl|rfl|rfl|rfl<;>rfl
 ·intro v' w' h1 h2 _;refine h v' w' ?_ h2;unfold Toks;rw [List.length_append,QgP];exact h1
end
end Go.Proofs.YtoohondkpddmcaaGreatDoor
