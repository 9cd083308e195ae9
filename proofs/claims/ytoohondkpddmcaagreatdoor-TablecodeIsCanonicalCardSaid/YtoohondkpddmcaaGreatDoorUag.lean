/- Tko Tkp Tkq Tkr Tks Tkt -/
import Derived.Test.YtoohondkpddmcaaGreatDoorUzz
import Derived.Test.YtoohondkpddmcaaGreatDoorUaf
namespace Go.Proofs.YtoohondkpddmcaaGreatDoor
set_option maxHeartbeats 32000000
set_option linter.unusedVariables false
set_option linter.unusedSimpArgs false
section
open Go.RowKit
attribute [local go_sem] ByteArray.mk_append_mk Qac Qad Qae
theorem Qif:∀ (n:Nat) (s v x r:List UInt8),s.length<=n->Qbp s v=some (x,r)->r.length<s.length
 | 0,s,v,x,r,hs,h=>by
   have:s=[]:=List.eq_nil_of_length_eq_zero (by omega);subst this;cases h
 | n+1,[],v,x,r,hs,h=>by cases h
 | n+1,c::t,v,x,r,hs,h=>by
   simp only [List.length_cons] at hs |-;by_cases h1:c=34
   ·subst h1;rw [Qjp] at h;split at h
    ·cases h
    ·injection h with h;injection h with _ h;subst h;omega
   ·by_cases h2:c=92
    ·subst h2;rw [QlW] at h;split at h
     ·next b m he =>
      have hm:=(Quh he).1;have:=Qif n _ _ x r (by rw [List.length_drop,List.length_cons];omega) h;rw [List.length_drop,List.length_cons] at this;omega
     ·cases h
    ·rw [Qjo h1 h2] at h;split at h
     ·have:=Qif n _ _ x r (by omega) h;omega
     ·cases h
end
section
open Go.RowKit
attribute [local go_sem] ByteArray.mk_append_mk Qac Qad Qae
def Ql0 (o:Option (Nat×Nat×List UInt8×Nat)) (p:Nat) (w:World) (e:Ending) (w':World):Prop :=
 (∃ (a b d n:Int) (c:List UInt8),e = .returned (.tuple #[QbB a b c d,.int .i64 n])/\(o=none->n = -1)/\∀ x,o=some x->a=x.1/\b=x.2.1/\c=x.2.2.1/\d=(p:Nat)/\n=(p+x.2.2.2:Nat))/\Below w.heap.size w w'
theorem Ql1 (tmps:Array Value) (w:World) (b:Nat) (c0 c1 c2 c3:Value) (h2:tmps.getD 4 undef = .pointer (some ⟨b,0,none⟩)) (hb:w.heap[b]?=some (.cells #[c0,c1,c2,c3] 34 (0,0))) :
  (results Tryz.f137 tmps).run Tryz.prog w = .ok (.tuple #[.agg #[c0,c1,c2,c3],tmps.getD 5 undef]) w:=by
 obtain ⟨e0,e1,e2,e3⟩:=Qaa hb;have h2':tmps[4]?.getD undef = .pointer (some ⟨b,0,none⟩):=by rw [<- h2];simp
 simp [results];go_simp
theorem Qm1 {c:UInt8} (h:Qba c=true):QaK c=false:=by
 unfold Qba at h;unfold QaK;rw [decide_eq_true_eq] at h;rw [decide_eq_false_iff_not];omega
set_option maxRecDepth 100000 in
theorem Qo5 (s:List UInt8) (p:Nat) (w:World) (hs:s.length<=4611686018427380000) (hp:p<s.length) (hd:Qba s[p]=false) (hl:QaK s[p]=true) :
  Calls Tryz.prog 137 #[.string ⟨s.toArray⟩,.int .i64 p] w (Ql0 (QcD (s.drop p)) p w):=by
 have HI:Hid (QcD (s.drop p)=if Qch ((s.drop p).take (Qbh (s.drop p)))=true then (if Qbh (s.drop p)<=32 then some (2,0,(s.drop p).take (Qbh (s.drop p)),Qbh (s.drop p)) else none) else Qjr (s.drop p)):=Za (by rw [Qff hp,if_neg (by rw [hd];decide),if_pos hl]);obtain ⟨X,hX⟩:∃ X,Hid (QcD (s.drop p)=X):=⟨_,Za rfl⟩;rw [hX.out] at HI |-;clear hX;have HW:=Za (fun w=>Qg1 s p w (by omega) (by omega));rw [QhI] at HW;have HNI:=Za (fun w=>QlV s p w (by omega) (by omega));obtain ⟨n,hn⟩:∃ n,Qbh (s.drop p)=n:=⟨_,rfl⟩;have hnl:n<=s.length-p:=by rw [<- hn,<- List.length_drop];exact Qfc _
 rw [hn] at HW HI;clear hn;have HL:=Za (fun w=>QlS ((s.drop p).take n) w (by rw [List.length_take,List.length_drop];omega));obtain ⟨lw,hlw⟩:∃ o,Hid (Qch ((s.drop p).take n)=o):=⟨_,Za rfl⟩;rw [hlw.out] at HL HI;obtain ⟨O,hO⟩:∃ o,Hid (QcC (s.drop p)=o):=⟨_,Za rfl⟩;unfold Qjr at HI;rw [hO.out] at HNI HI;have HD:=Za (fun w=>Qce s[p] true hl w);obtain ⟨q,hq⟩:∃ q,p+n=q:=⟨_,rfl⟩;have hqn:q-p=n:=by omega
 have hpq:p<=q:=by omega
 have hql:q<=s.length:=by omega
 rw [hq] at HW;clear hd hl;have HQ:=Za hq;clear hq;go_enter Tryz.func137,Tryz.ntmps137;go_wp2_with fail;((with_reducible refine (HD.out _).mono ?_));rintro e w2 ⟨rfl,rfl⟩;go_wp2_with fail;((with_reducible refine (HW.out _).mono ?_));rintro e w2 ⟨rfl,rfl⟩;go_wp2_with fail;((with_reducible refine (HL.out _).mono ?_));rintro e w2 ⟨rfl,rfl⟩;clear HL;cases lw
 ·obtain rfl:X=O.map fun m=>(1,0,(s.drop p).take m,m):=by have:=HI.out;rw [if_neg (by decide)] at this;exact this
  clear HI HW;go_wp2_with fail;((with_reducible refine (HD.out _).mono ?_));rintro e w2 ⟨rfl,rfl⟩;go_wp2_with fail;((with_reducible refine (HNI.out _).mono ?_));rintro e w2 ⟨rfl,rfl⟩;clear hqn hpq hql;cases O with
  | none =>
    unfold Qgp;simp only [];go_wp2_with fail;exact bodyPost_ret (v:=.tuple #[QbB 0 0 [] 0,.int .i64 (-1)]) (by simp [results,Tryz.results137,go_sem,QbB]) rfl ⟨⟨0,0,0,-1,_,rfl,fun _=>rfl,fun x h=>by cases h⟩,Zb.alloc Zc _⟩
  | some m =>
    have hm:=Qkh hO.out;rw [List.length_drop] at hm;clear hO;unfold Qgp;simp only [];obtain ⟨q,hq⟩:∃ q,p+m=q:=⟨_,rfl⟩;have hqn:q-p=m:=by omega
    have hpq:p<=q:=by omega
    have hql:q<=s.length:=by omega
    rw [hq];have HQ:=Za hq;clear hq;go_wp2_with fail;refine bodyPost_ret (v:=.tuple #[QbB 1 0 ((s.drop p).take m) p,.int .i64 q]) (by simp [results,Tryz.results137,go_sem,QbB,hqn]) rfl ⟨⟨1,0,p,q,_,rfl,fun h=>(by cases h),fun x h=>?_⟩,Zb.alloc Zc _⟩;injection h with h;subst h;exact ⟨rfl,rfl,rfl,rfl,by rw [<- HQ.out]⟩
 ·by_cases h32:(32:Int)<(q:Int)-(p:Int)
  ·obtain rfl:X=none:=by have:=HI.out;rw [if_pos rfl,if_neg (by omega)] at this;exact this
   clear HI;go_wp2_with fail;((with_reducible refine (HW.out _).mono ?_));rintro e w2 ⟨rfl,rfl⟩;go_wp2_with fail;exact bodyPost_ret (v:=.tuple #[QbB 0 0 [] 0,.int .i64 (-1)]) (by simp [results,Tryz.results137,go_sem,QbB]) rfl ⟨⟨0,0,0,-1,_,rfl,fun _=>rfl,fun x h=>by cases h⟩,Zb.alloc Zc _⟩
  ·obtain rfl:X=some (2,0,(s.drop p).take n,n):=by have:=HI.out;rw [if_pos rfl,if_pos (by omega)] at this;exact this
   clear HI;go_wp2_with fail;((with_reducible refine (HW.out _).mono ?_));rintro e w2 ⟨rfl,rfl⟩;go_wp2_with fail;refine bodyPost_ret (v:=.tuple #[QbB 2 0 ((s.drop p).take n) p,.int .i64 q]) (by simp [results,Tryz.results137,go_sem,QbB,hqn]) rfl ⟨⟨2,0,p,q,_,rfl,fun h=>(by cases h),fun x h=>?_⟩,Zb.alloc Zc _⟩;injection h with h;subst h;exact ⟨rfl,rfl,rfl,rfl,by rw [<- HQ.out]⟩
set_option maxRecDepth 100000 in
theorem QnC (s:List UInt8) (p:Nat) (w:World) (hs:s.length<=4611686018427380000) (hp:p<s.length) (hd:Qba s[p]=false) (hl:QaK s[p]=false) (h9:s[p]=92\/s[p]=94) :
  Calls Tryz.prog 137 #[.string ⟨s.toArray⟩,.int .i64 p] w (Ql0 (QcD (s.drop p)) p w):=by
 have HI:Hid (QcD (s.drop p)=Qjr (s.drop p)):=Za (by rw [Qff hp,if_neg (by rw [hd];decide),if_neg (by rw [hl];decide),if_pos h9]);rw [HI.out];clear HI;have HNI:=Za (fun w=>QlV s p w (by omega) (by omega));unfold Qjr;obtain ⟨O,hO⟩:∃ o,Hid (QcC (s.drop p)=o):=⟨_,Za rfl⟩;rw [hO.out] at HNI |-;have HD:=Za (fun w=>Qce s[p] false hl w);have HB9:Hid (((s[p].toNat:Int)==92)=true\/(((s[p].toNat:Int)==92)=false/\((s[p].toNat:Int)==94)=true)):=Za (by
  rcases QaX s[p] 92 92 rfl with ⟨_,h⟩|⟨e,h⟩
  ·exact .inl h
  ·rcases QaX s[p] 94 94 rfl with ⟨_,h'⟩|⟨e',h'⟩
   ·exact .inr ⟨h,h'⟩
   ·rcases h9 with h9|h9
    ·exact absurd h9 e
    ·exact absurd h9 e')
 clear hd hl h9;go_enter Tryz.func137,Tryz.ntmps137;go_wp2_with fail;((with_reducible refine (HD.out _).mono ?_));rintro e w2 ⟨rfl,rfl⟩;go_wp2_with fail;((with_reducible refine (HD.out _).mono ?_));rintro e w2 ⟨rfl,rfl⟩;clear HD;rcases HB9.out with h92|⟨h92,h94⟩
 all_goals
  go_wp2_with fail;((with_reducible refine (HNI.out _).mono ?_));rintro e w2 ⟨rfl,rfl⟩;cases O with
  | none =>
    unfold Qgp;simp only [];go_wp2_with fail;exact bodyPost_ret (v:=.tuple #[QbB 0 0 [] 0,.int .i64 (-1)]) (by simp [results,Tryz.results137,go_sem,QbB]) rfl ⟨⟨0,0,0,-1,_,rfl,fun _=>rfl,fun x h=>by cases h⟩,Zb.alloc Zc _⟩
  | some m =>
    have hm:=Qkh hO.out;rw [List.length_drop] at hm;clear hO;unfold Qgp;simp only [];obtain ⟨q,hq⟩:∃ q,p+m=q:=⟨_,rfl⟩;have hqn:q-p=m:=by omega
    have hpq:p<=q:=by omega
    have hql:q<=s.length:=by omega
    rw [hq];have HQ:=Za hq;clear hq;go_wp2_with fail;refine bodyPost_ret (v:=.tuple #[QbB 1 0 ((s.drop p).take m) p,.int .i64 q]) (by simp [results,Tryz.results137,go_sem,QbB,hqn]) rfl ⟨⟨1,0,p,q,_,rfl,fun h=>(by cases h),fun x h=>?_⟩,Zb.alloc Zc _⟩;injection h with h;subst h;exact ⟨rfl,rfl,rfl,rfl,by rw [<- HQ.out]⟩
set_option maxRecDepth 100000 in
theorem QnD (s:List UInt8) (p:Nat) (w:World) (hs:s.length<=4611686018427380000) (hp:p<s.length) (hd:Qba s[p]=true) :
  Calls Tryz.prog 137 #[.string ⟨s.toArray⟩,.int .i64 p] w (Ql0 (QcD (s.drop p)) p w):=by
 have HI:Hid (QcD (s.drop p)=(Qkb ((s.drop p).take (Qbh (s.drop p)))).map fun v=>(3,v,[],Qbh (s.drop p))):=Za (by rw [Qff hp,if_pos hd]);rw [HI.out];clear HI;have hw1:=Qo4 hp (by unfold idB;rw [hd];simp);have HW:=Za (fun w=>Qg1 s p w (by omega) (by omega));rw [QhI] at HW;obtain ⟨n,hn⟩:∃ n,Qbh (s.drop p)=n:=⟨_,rfl⟩;have hnl:n<=s.length-p:=by rw [<- hn,<- List.length_drop];exact Qfc _
 rw [hn] at HW hw1 |-;clear hn;have HV:=Za (fun w=>Qst ((s.drop p).take n) w (by rw [List.length_take,List.length_drop];omega) (by
  intro h;have:=congrArg List.length h;rw [List.length_take,List.length_drop,List.length_nil] at this;omega))
 obtain ⟨o,ho⟩:∃ o,Hid (Qkb ((s.drop p).take n)=o):=⟨_,Za rfl⟩;rw [ho.out] at HV |-;have HD:=Za (fun w=>Qce s[p] false (Qm1 hd) w);have HE:=Za (fun w=>Qfd s[p] true hd w);have h92:((s[p].toNat:Int)==92)=false:=by
  obtain ⟨k1,k2⟩:=QcX hd;rw [beq_eq_false_iff_ne];omega
 have h94:((s[p].toNat:Int)==94)=false:=by
  obtain ⟨k1,k2⟩:=QcX hd;rw [beq_eq_false_iff_ne];omega
 obtain ⟨q,hq⟩:∃ q,p+n=q:=⟨_,rfl⟩;have hqn:q-p=n:=by omega
 have hpq:p<=q:=by omega
 have hql:q<=s.length:=by omega
 rw [hq] at HW;have HQ:=Za hq;clear hd hq ho hw1;go_enter Tryz.func137,Tryz.ntmps137;go_wp2_with fail;((with_reducible refine (HD.out _).mono ?_));rintro e w2 ⟨rfl,rfl⟩;go_wp2_with fail;((with_reducible refine (HD.out _).mono ?_));rintro e w2 ⟨rfl,rfl⟩;go_wp2_with fail;((with_reducible refine (HE.out _).mono ?_));rintro e w2 ⟨rfl,rfl⟩;clear HD HE;go_wp2_with fail;((with_reducible refine (HW.out _).mono ?_));rintro e w2 ⟨rfl,rfl⟩;go_wp2_with fail;((with_reducible refine (HV.out _).mono ?_));rintro e w2 ⟨rfl,rfl⟩;unfold Qqd;cases o with
 | none =>
   simp only [Option.getD_none,Option.isSome_none];go_wp2_with fail;exact bodyPost_ret (v:=.tuple #[QbB 0 0 [] 0,.int .i64 (-1)]) (by simp [results,Tryz.results137,go_sem,QbB]) rfl ⟨⟨0,0,0,-1,_,rfl,fun _=>rfl,fun x h=>by cases h⟩,Zb.alloc Zc _⟩
 | some v =>
   simp only [Option.getD_some,Option.isSome_some];go_wp2_with fail;refine bodyPost_ret (v:=.tuple #[QbB 3 v [] p,.int .i64 q]) (by simp [results,Tryz.results137,go_sem,QbB]) rfl ⟨⟨3,v,p,q,_,rfl,fun h=>(by cases h),fun x h=>?_⟩,Zb.alloc Zc _⟩;injection h with h;subst h;exact ⟨rfl,rfl,rfl,rfl,by rw [<- HQ.out]⟩
set_option maxRecDepth 100000 in
theorem QnE (s:List UInt8) (p:Nat) (w:World) (hs:s.length<=4611686018427380000) (hp:p<s.length) (h9:s[p]=34) :
  Calls Tryz.prog 137 #[.string ⟨s.toArray⟩,.int .i64 p] w (Ql0 (QcD (s.drop p)) p w):=by
 have hd:Qba s[p]=false:=by rw [h9];rfl
 have hl:QaK s[p]=false:=by rw [h9];rfl
 have HI:Hid (QcD (s.drop p)=(Qbp (s.drop (p+1)) []).map fun q=>(4,0,q.1,(s.drop p).length-q.2.length)):=Za (by rw [Qff hp,if_neg (by rw [hd];decide),if_neg (by rw [hl];decide),if_neg (by rw [h9];decide),if_pos h9]);rw [HI.out];clear HI;have HT:=Za (fun w=>Qq2 s p w hs hp);obtain ⟨O,hO⟩:∃ o,Hid (Qbp (s.drop (p+1)) []=o):=⟨_,Za rfl⟩;rw [hO.out] at HT |-;have HD:=Za (fun w=>Qfd s[p] false hd w);have HS:=Za (fun w=>Qce s[p] false hl w);have h34:((s[p].toNat:Int)==34)=true:=by rw [h9];rfl
 have h92:((s[p].toNat:Int)==92)=false:=by rw [h9];rfl
 have h94:((s[p].toNat:Int)==94)=false:=by rw [h9];rfl
 clear hd hl h9;go_enter Tryz.func137,Tryz.ntmps137;go_wp2_with fail;((with_reducible refine (HS.out _).mono ?_));rintro e w2 ⟨rfl,rfl⟩;go_wp2_with fail;((with_reducible refine (HS.out _).mono ?_));rintro e w2 ⟨rfl,rfl⟩;go_wp2_with fail;((with_reducible refine (HD.out _).mono ?_));rintro e w2 ⟨rfl,rfl⟩;clear HD HS;go_wp2_with fail;((with_reducible refine (HT.out _).mono ?_));rintro e w2 ⟨rfl,hb⟩;obtain ⟨hb1,hn⟩:=QqK hb;clear hb;have HB:=Za hb1;have HN:=Za hn;obtain ⟨c0,c1,c2,c3⟩:=Qaa hn;have f0:=Qay hn 0;have f1:=Qay hn 1;have f2:=Qay hn 2;have f3:=Qay hn 3;clear hn hb1;cases O with
 | none =>
   simp only [Qie];go_wp2_with fail;exact bodyPost_ret (Ql1 _ _ _ _ _ _ _ rfl (QjP HN.out _ _ _ _)) rfl ⟨⟨4,0,p,-1,[],rfl,fun _=>rfl,fun x h=>by cases h⟩,QjQ HB.out Zc _ _ _ _⟩
 | some q =>
   obtain ⟨v,r⟩:=q;simp only [Qie];have hr:=Qif _ _ _ _ _ Zc hO.out;rw [List.length_drop] at hr;obtain ⟨k,hk⟩:∃ k,s.length-r.length=k:=⟨_,rfl⟩;rw [hk];go_wp2_with fail;refine bodyPost_ret (Ql1 _ _ _ _ _ _ _ rfl (QjP HN.out _ _ _ _)) rfl ⟨⟨4,0,p,k,v,rfl,fun h=>(by cases h),fun x h=>?_⟩,QjQ HB.out Zc _ _ _ _⟩;injection h with h;subst h;refine ⟨rfl,rfl,rfl,rfl,?_⟩;simp only [List.length_drop];omega
set_option maxRecDepth 100000 in
theorem QnF (s:List UInt8) (p:Nat) (w:World) (hs:s.length<=4611686018427380000) (hp:p<s.length) (hd:Qba s[p]=false) (hl:QaK s[p]=false) (h92:s[p]≠92) (h94:s[p]≠94) (h34:s[p]≠34) :
  Calls Tryz.prog 137 #[.string ⟨s.toArray⟩,.int .i64 p] w (Ql0 (QcD (s.drop p)) p w):=by
 have HI:Hid (QcD (s.drop p)=if QdI s[p]=0 then none else some (QdI s[p],0,[],1)):=Za (by rw [Qff hp,if_neg (by rw [hd];decide),if_neg (by rw [hl];decide),if_neg (by rintro (h|h);exact h92 h;exact h94 h),if_neg h34]);have HP:=Za (fun w=>QoV s[p] w);obtain ⟨K,hK⟩:∃ K,QdI s[p]=K:=⟨_,rfl⟩;rw [hK] at HI HP;obtain ⟨X,hX⟩:∃ X,Hid (QcD (s.drop p)=X):=⟨_,Za rfl⟩;rw [hX.out] at HI |-;clear hX hK;have HD:=Za (fun w=>Qfd s[p] false hd w);have HS:=Za (fun w=>Qce s[p] false hl w);have k34:((s[p].toNat:Int)==34)=false:=((QaX s[p] 34 34 rfl).resolve_left fun h=>h34 h.1).2;have k92:((s[p].toNat:Int)==92)=false:=((QaX s[p] 92 92 rfl).resolve_left fun h=>h92 h.1).2;have k94:((s[p].toNat:Int)==94)=false:=((QaX s[p] 94 94 rfl).resolve_left fun h=>h94 h.1).2;clear hd hl h92 h94 h34;go_enter Tryz.func137,Tryz.ntmps137;go_wp2_with fail;((with_reducible refine (HS.out _).mono ?_));rintro e w2 ⟨rfl,rfl⟩;go_wp2_with fail;((with_reducible refine (HS.out _).mono ?_));rintro e w2 ⟨rfl,rfl⟩;go_wp2_with fail;((with_reducible refine (HD.out _).mono ?_));rintro e w2 ⟨rfl,rfl⟩;clear HD HS;go_wp2_with fail;((with_reducible refine (HP.out _).mono ?_));rintro e w2 ⟨rfl,rfl⟩;by_cases k0:(0:Int)<(K:Int)
 ·obtain rfl:X=some (K,0,[],1):=by rw [HI.out,if_neg (by omega)]
  clear HI;go_wp2_with fail;((with_reducible refine (HP.out _).mono ?_));rintro e w2 ⟨rfl,rfl⟩;go_wp2_with fail;refine bodyPost_ret (v:=.tuple #[QbB K 0 [] p,.int .i64 ((p:Int)+1)]) (by simp [results,Tryz.results137,go_sem,QbB]) rfl ⟨⟨K,0,p,_,_,rfl,fun h=>(by cases h),fun x h=>?_⟩,Zb.alloc Zc _⟩;injection h with h;subst h;exact ⟨rfl,rfl,rfl,rfl,by simp⟩
 ·obtain rfl:X=none:=by rw [HI.out,if_pos (by omega)]
  clear HI;go_wp2_with fail;exact bodyPost_ret (v:=.tuple #[QbB 0 0 [] 0,.int .i64 (-1)]) (by simp [results,Tryz.results137,go_sem,QbB]) rfl ⟨⟨0,0,0,-1,_,rfl,fun _=>rfl,fun x h=>by cases h⟩,Zb.alloc Zc _⟩
theorem Qq5 (s:List UInt8) (p:Nat) (w:World) (hs:s.length<=4611686018427380000) (hp:p<s.length) :
  Calls Tryz.prog 137 #[.string ⟨s.toArray⟩,.int .i64 p] w (Ql0 (QcD (s.drop p)) p w):=by
 cases hd:Qba s[p]
 ·cases hl:QaK s[p]
  ·by_cases h9:s[p]=92\/s[p]=94
   ·exact QnC s p w hs hp hd hl h9
   ·by_cases h34:s[p]=34
    ·exact QnE s p w hs hp h34
    ·exact QnF s p w hs hp hd hl (fun h=>h9 (.inl h)) (fun h=>h9 (.inr h)) h34
  ·exact Qo5 s p w hs hp hd hl
 ·exact QnD s p w hs hp hd
end
section
open Go.RowKit
theorem Qhx:∀ (d r:List UInt8),QbU d=some r->∃ k,k<=d.length/\r=d.drop k
 | [],r,h=>by cases h
 | c::t,r,h=>by
   unfold QbU at h;split at h
   ·cases h
   ·next heq =>
    injection heq with h1 h2;subst h1 h2;injection h with h;subst h;exact ⟨2,by simp,rfl⟩
   ·next heq =>
    injection heq with h1 h2;subst h1 h2;obtain ⟨k,hk,e⟩:=Qhx _ r h;exact ⟨k+1,by simp;omega,by rw [e];rfl⟩
theorem Qig:∀ d:List UInt8,∃ k,k<=d.length/\d.dropWhile (· != 10)=d.drop k
 | []=>⟨0,by simp,rfl⟩
 | c::t=>by
   rw [List.dropWhile_cons];split
   ·obtain ⟨k,hk,e⟩:=Qig t;exact ⟨k+1,by simp;omega,by rw [e];rfl⟩
   ·exact ⟨0,by simp,rfl⟩
theorem QdQ:∀ (f:Nat) (d:List UInt8),∃ k,k<=d.length/\(QeE f d).1=d.drop k
 | 0,d=>⟨0,by simp,rfl⟩
 | f+1,d=>by
   unfold QeE;split
   ·exact ⟨0,by simp,rfl⟩
   ·next r =>
    obtain ⟨k1,hk1,e1⟩:=Qig (47::47::r);obtain ⟨k2,hk2,e2⟩:=QdQ f ((47::47::r).dropWhile (· != 10));rw [e2];rw [e1] at hk2 |-;rw [List.length_drop] at hk2;exact ⟨k1+k2,by omega,by rw [List.drop_drop]⟩
   ·next r =>
    split
    ·next t ht =>
     obtain ⟨k1,hk1,e1⟩:=Qhx _ _ ht;obtain ⟨k2,hk2,e2⟩:=QdQ f t;rw [e2];rw [e1] at hk2 |-;rw [List.length_drop] at hk2;exact ⟨2+(k1+k2),by simp;omega,by rw [show 2+(k1+k2)=k1+k2+2 by omega,List.drop_drop];rfl⟩
    ·exact ⟨0,by simp,rfl⟩
   ·next c r _ _ =>
    split
    ·obtain ⟨k2,hk2,e2⟩:=QdQ f r;exact ⟨k2+1,by simp;omega,by rw [e2];rfl⟩
    ·exact ⟨0,by simp,rfl⟩
theorem Qm2 (d:List UInt8):∃ k,k<=d.length/\(Qa3 d).1=d.drop k:=QdQ _ d
theorem QfT (s:List UInt8) (p:Nat) (hp:p<=s.length):∃ q,p<=q/\q<=s.length/\(Qa3 (s.drop p)).1=s.drop q/\s.length-(Qa3 (s.drop p)).1.length=q:=by
 obtain ⟨k,hk,e⟩:=Qm2 (s.drop p);rw [List.length_drop] at hk;refine ⟨p+k,by omega,by omega,by rw [e,List.drop_drop],?_⟩;rw [e,List.drop_drop,List.length_drop];omega
theorem Qq6:∀ (f:Nat) (r:List UInt8) (m:Nat),Qdc f r=some m->1<=m
 | 0,_,_,h=>by cases h
 | _+1,[],_,h=>by cases h
 | f+1,c::r,m,h=>by
   unfold Qdc at h;split at h
   ·cases h
   ·next hl =>
    have hw:1<=Qbh (c::r):=Qd4 (by unfold idB;rw [Bool.not_eq_false] at hl;rw [hl]<;>rfl);split at h
    ·cases h
    ·split at h
     ·next t ht =>
      cases hs:Qdc f t with
      | none=>rw [hs] at h;cases h
      | some k =>
        rw [hs] at h;simp only [Option.map_some,Option.some.injEq] at h;omega
     ·injection h with h;omega
theorem Qq7 {s:List UInt8} {m:Nat} (h:QcC s=some m):1<=m:=by
 unfold QcC at h;split at h
 ·split at h
  ·injection h with h;omega
  ·cases h
 ·next c r hd =>
  split at h
  ·cases hs:Qdc (c::r).length (c::r) with
   | none=>rw [hs] at h;cases h
   | some k =>
     rw [hs] at h;have:=Qq6 _ _ k hs;simp only [Option.map_some,Option.some.injEq] at h;omega
  ·split at h
   ·injection h with h;omega
   ·cases h
theorem QnG {d:List UInt8} {x:Nat×Nat×List UInt8×Nat} (h:Qjr d=some x):1<=x.2.2.2/\x.2.2.2<=d.length:=by
 unfold Qjr at h;cases hn:QcC d with
 | none=>rw [hn] at h;cases h
 | some m =>
   rw [hn] at h;injection h with h;subst h;exact ⟨Qq7 hn,Qkh hn⟩
theorem QgD {d:List UInt8} {x:Nat×Nat×List UInt8×Nat} (h:QcD d=some x):1<=x.2.2.2/\x.2.2.2<=d.length:=by
 cases d with
 | nil=>cases h
 | cons c r =>
   have h':=Qff (s:=c::r) (p:=0) (by simp);simp only [List.drop_zero,List.getElem_cons_zero,Nat.zero_add,List.drop_succ_cons] at h';rw [h'] at h;clear h';split at h
   ·next hd =>
    cases hv:Qkb ((c::r).take (Qbh (c::r))) with
    | none=>rw [hv] at h;cases h
    | some v =>
      rw [hv] at h;injection h with h;subst h;exact ⟨Qd4 (by unfold idB;rw [hd];simp),Qfc _⟩
   ·split at h
    ·next hl =>
     split at h
     ·split at h
      ·injection h with h;subst h;exact ⟨Qd4 (by unfold idB;rw [hl]<;>rfl),Qfc _⟩
      ·cases h
     ·exact QnG h
    ·split at h
     ·exact QnG h
     ·split at h
      ·cases ht:Qbp r [] with
       | none=>rw [ht] at h;cases h
       | some q =>
         rw [ht] at h;injection h with h;subst h;have:=Qif _ _ _ q.1 q.2 Zc ht;simp only [List.length_cons];omega
      ·split at h
       ·cases h
       ·injection h with h;subst h;simp
theorem Qki (s:List UInt8):∀ (f g p:Nat) (acc:List Tok),p<=s.length->s.length+1<=f+p->s.length+1<=g+p->QdN s f p acc=QdN s g p acc
 | 0,_,p,_,hp,h,_=>absurd h (by omega)
 | _+1,0,p,_,hp,_,h=>absurd h (by omega)
 | f+1,g+1,p,acc,hp,h1,h2=>by
   obtain ⟨q,hq1,hq2,e1,e2⟩:=QfT s p hp;unfold QdN;rw [e2,e1];split
   ·rfl
   ·split
    ·rfl
    ·split
     ·rfl
     ·next k v t n hi =>
      have:=QgD hi;rw [List.length_drop] at this;simp only [] at this;exact Qki s f g (q+n) _ (by omega) (by omega) (by omega)
def QeH (s:List UInt8) (p:Nat) (acc:List Tok):List Tok×Nat×Nat:=QdN s (s.length+1) p acc
theorem Qo6 {s:List UInt8} {p q:Nat} {acc:List Tok} (hq:s.length-(Qa3 (s.drop p)).1.length=q) (h:(Qa3 (s.drop p)).2=false):QeH s p acc=([],q,2):=by
 unfold QeH;rw [QdN,if_pos h,hq]
theorem Qo7 {s:List UInt8} {p:Nat} {acc:List Tok} (h:(Qa3 (s.drop p)).2=true) (h1:(Qa3 (s.drop p)).1=[]):QeH s p acc=(acc,0,0):=by
 unfold QeH;rw [QdN,if_neg (by rw [h];decide),if_pos h1]
theorem Qq8 {s:List UInt8} {p q:Nat} {acc:List Tok} (hq:s.length-(Qa3 (s.drop p)).1.length=q) (h:(Qa3 (s.drop p)).2=true) (h0:(Qa3 (s.drop p)).1=s.drop q) (h1:q<s.length) (h2:QcD (s.drop q)=none):QeH s p acc=([],q,2):=by
 unfold QeH;rw [QdN,if_neg (by rw [h];decide),if_neg (by rw [h0];intro e;have:=congrArg List.length e;rw [List.length_drop,List.length_nil] at this;omega),hq,h0,h2]
theorem Qo8 {s:List UInt8} {p q k v n:Nat} {t:List UInt8} {acc:List Tok} (hp:p<=q) (hq:s.length-(Qa3 (s.drop p)).1.length=q) (h:(Qa3 (s.drop p)).2=true) (h0:(Qa3 (s.drop p)).1=s.drop q) (h1:q<s.length) (h2:QcD (s.drop q)=some (k,v,t,n)):QeH s p acc=QeH s (q+n) (acc++[⟨k,v,t,q⟩]):=by
 have hn:1<=n/\n<=(s.drop q).length:=QgD h2;rw [List.length_drop] at hn;unfold QeH;rw [QdN,if_neg (by rw [h];decide),if_neg (by rw [h0];intro e;have:=congrArg List.length e;rw [List.length_drop,List.length_nil] at this;omega),hq,h0,h2];exact Qki s _ _ _ _ (by omega) (by omega) (by omega)
theorem Qo9 {s:List UInt8} (h:65536<s.length):QeF s=([],0,11):=by unfold QeF;rw [if_pos h]
theorem Qsz {s:List UInt8} (h:¬ 65536<s.length):QeF s=QeH s 0 []:=by unfold QeF QeH;rw [if_neg h]
def QbS:List Tok->List Value
 | []=>[]
 | t::r=>.int .i64 t.kind::.int .u64 t.num::.string ⟨t.str.toArray⟩::.int .i64 t.pos::QbS r
theorem Qih:∀ l m:List Tok,QbS (l++m)=QbS l++QbS m
 | [],m=>rfl
 | t::r,m=>by rw [List.cons_append,QbS,QbS,Qih r m];rfl
theorem Qjs:∀ (l:List Tok) (i:Nat) (h:i<l.length),(QbS l)[i * 4]?=some (.int .i64 l[i].kind)/\(QbS l)[i * 4+1]?=some (.int .u64 l[i].num)/\(QbS l)[i * 4+2]?=some (.string ⟨l[i].str.toArray⟩)/\(QbS l)[i * 4+3]?=some (.int .i64 l[i].pos)
 | t::r,0,_=>⟨rfl,rfl,rfl,rfl⟩
 | t::r,i+1,h=>by
   have:=Qjs r i (by simpa using h);rw [show (i+1) * 4=i * 4+4 by omega];exact this
theorem Quk:(Tryz.prog.info? 34).map (fun i=>(i.zero,i.size,i.bytes))=some (some (.agg #[.int .i64 0,.int .u64 0,.string ⟨#[]⟩,.int .i64 0]),4,40):=by kernel_rfl
def Toks (w:World) (B:Nat) (v:Value) (l:List Tok):Prop:=w.ownsRow B 34 4 v l.length (QbS l)
theorem Toks.nil (w:World) (B:Nat):Toks w B (.slice none 0 0) []:=⟨rfl,.inl ⟨rfl,rfl⟩⟩
theorem Toks.below {w w':World} {B:Nat} {v:Value} {l:List Tok} (h:Toks w B v l) (hb:Below w.heap.size w w'):Toks w' B v l:=QbY h hb
theorem Toks.base {w:World} {B B':Nat} {v:Value} {l:List Tok} (h:Toks w B v l) (hB:B'<=B):Toks w B' v l:=Qgz h hB
theorem Toks.form {w:World} {B:Nat} {v:Value} {l:List Tok} (h:Toks w B v l):∃ a c,v = .slice a l.length c:=by
 rcases h.2 with ⟨rfl,h0⟩|⟨g,cap,cur,rfl,_⟩
 ·exact ⟨none,0,by rw [h0]⟩
 ·exact ⟨_,cap,rfl⟩
theorem Toks.kept {w w1 w2:World} {B B0:Nat} {v:Value} {l:List Tok} (ho:Toks w1 B v l) (h:Below B0 w w1) (hg:w1.grownBy w2 v.ownBlock) (hB:B0<=w1.heap.size) (hB2:B0<=B):Below B0 w w2 :=
 h.grown hg hB (fun k hk=>Nat.le_trans hB2 (Qap ho hk))
theorem Toks.cells {w:World} {B:Nat} {a:Option Addr} {n c:Nat} {l:List Tok} (h:Toks w B (.slice a n c) l) (i:Nat) (hi:i<l.length):∃ b,a=some ⟨b,0,none⟩/\B<=b /\
  w.cell? ⟨b,i * 4,none⟩=some (.int .i64 l[i].kind)/\w.cell? ⟨b,i * 4+1,none⟩=some (.int .u64 l[i].num)/\w.cell? ⟨b,i * 4+2,none⟩=some (.string ⟨l[i].str.toArray⟩)/\w.cell? ⟨b,i * 4+3,none⟩=some (.int .i64 l[i].pos):=by
 obtain ⟨h1,h2⟩:=h;rcases h2 with ⟨hv,h0⟩|⟨g,cap,cur,hv,hb,hg,hn,hm,hs,ht⟩
 ·omega
 ·injection hv with e1 e2 e3;obtain ⟨k0,k1,k2,k3⟩:=Qjs l i hi;rw [<- ht] at k0 k1 k2 k3;rw [List.getElem?_take,if_pos (by omega)] at k0 k1 k2 k3;refine ⟨g,e1,hb,?_,?_,?_,?_⟩
  ·rw [cell_of_row w g _ cur _ (0,0) hg];simpa using k0
  ·rw [cell_of_row w g _ cur _ (0,0) hg];simpa using k1
  ·rw [cell_of_row w g _ cur _ (0,0) hg];simpa using k2
  ·rw [cell_of_row w g _ cur _ (0,0) hg];simpa using k3
theorem Qii {w:World} {ops:Array Oper} {rest:List Oper} {o:Oper} {a:Act} {Q:Exit->Act->World->Prop} (hgd:o.guard=none) (s x:Operand)
  (ho:o.op = .call { callee:=.builtin .append,args:=#[s,x],argTypes:=#[26,26] })
  (B:Nat) (v:Value) (l:List Tok) (hs:a.eval s=v) (hown:Toks w B v l) (g:Nat) (t:Tok)
  (hx:a.eval x = .slice (some ⟨g,0,none⟩) 1 1) (hb:w.heap[g]?=some (.cells #[.int .i64 t.kind,.int .u64 t.num,.string ⟨t.str.toArray⟩,.int .i64 t.pos] 34 (0,0))) (hlen:l.length<=1000000) (hB:B<=w.heap.size)
  (h:∀ v' w',Toks w' B v' (l++[t])->w.grownBy w' v.ownBlock->wpList Tryz.prog ops Q rest (a.put o.dst v') w'):wpList Tryz.prog ops Q (o::rest) a w:=by
 obtain ⟨i0,hi,hz0,hz1,hz2⟩:=info_parts Quk;obtain ⟨c0,c1,c2,c3⟩:=Qaa hb;refine wpList_append_own _ hgd s x _ ho B 34 i0 _ 4 40 Tryz.underlying26 hi hz0 hz1 hz2 rfl (by decide) v l.length _ hs hown ⟨g,0,none⟩ 1 1 (QbS [t]) hx rfl ?_ ?_ (by unfold maxLen;omega) (by omega) hB ?_
 ·intro j z hj
  match j,hj with
  | 0,hj=>cases hj;exact c0
  | 1,hj=>cases hj;exact c1
  | 2,hj=>cases hj;exact c2
  | 3,hj=>cases hj;exact c3
 ·intro z hz;simp only [QbS,List.mem_cons,List.not_mem_nil,or_false] at hz;rcases hz with rfl|rfl|rfl|rfl<;>rfl
 ·intro v' w' h1 h2 _;refine h v' w' ?_ h2;unfold Toks;rw [List.length_append,Qih];exact h1
end
section
open Go.RowKit
attribute [local go_sem] ByteArray.mk_append_mk Qac Qad Qae
theorem Toks.alloc {w:World} {B:Nat} {v:Value} {l:List Tok} (h:Toks w B v l) (o:Obj):Toks (w.alloc o) B v l:=h.below (Zb.alloc Zc o)
theorem Qul (w:World) (o o':Obj):((w.alloc o).alloc o').heap[w.heap.size+1]?=some o':=by
 have:=heap_alloc_new (w.alloc o) o';simpa using this
theorem QhL {B:Nat} {w w2:World} (h:Below B w w2) (o o':Obj) (hB:B<=w.heap.size):Below B w ((w2.alloc o).alloc o'):=by
 have h1:=h.alloc (Nat.le_trans hB h.size) o;exact h1.alloc (Nat.le_trans hB h1.size) o'
def QnH (w:World) (x:List Tok×Nat×Nat) (e:Ending) (w':World):Prop :=
 ∃ v,e = .returned (.tuple #[v,.int .i64 x.2.1,.int .i64 x.2.2])/\Toks w' w.heap.size v x.1/\Below w.heap.size w w'
set_option maxRecDepth 100000 in
theorem Qq9 (s:List UInt8) (w:World) (hs:s.length<=4611686018427380000) :
  Calls Tryz.prog 97 #[.string ⟨s.toArray⟩] w (QnH w (QeF s)):=by
 by_cases hl:(65536:Int)<(s.length:Int)
 ·rw [Qo9 (by omega)];go_enter Tryz.func97,Tryz.ntmps97;go_wp2_with fail;go_ret3;exact ⟨_,rfl,Toks.nil _ _,Zb⟩
 ·rw [Qsz (by omega)];have hl2:s.length<=65536:=by omega
  obtain ⟨X,hX⟩:∃ X,Hid (QeH s 0 []=X):=⟨_,Za rfl⟩;rw [hX.out];go_enter Tryz.func97,Tryz.ntmps97;go_wp2_with fail;go_loopw [6,5] (fun i v wr=>∃ (p:Nat) (l:List Tok),i = .int .i64 p/\p<=s.length/\l.length<=p/\Hid (X=QeH s p l)/\Hid (Toks wr w.heap.size v l)/\Hid (Below w.heap.size w wr)) (fun i _ _=>s.length-(intOf i).toNat)
  case atStart=>exact ⟨0,[],rfl,by omega,by simp,Za hX.out.symm,Za (Toks.nil _ _),Za Zb⟩
  case round =>
   obtain ⟨p,l,rfl,hp,hlp,HX,HO,HB⟩:=hrel;obtain ⟨av,cv,hv⟩:=HO.out.form;subst hv;obtain ⟨w1,rfl⟩:∃ x:World,x=wr:=⟨_,rfl⟩;have HS:=Za (Qq4 s p w1 (by omega) hp);obtain ⟨q,hq1,hq2,e1,e2⟩:=QfT s p hp;unfold QfR at HS;rw [e2] at HS;obtain ⟨b,hb⟩:∃ b,Hid ((Qa3 (s.drop p)).2=b):=⟨_,Za rfl⟩;rw [hb.out] at HS;have E1:=Za e1;have E2:=Za e2;clear e1 e2;cases b
   ·have HX2:Hid (X=([],q,2)):=Za (by rw [HX.out];exact Qo6 E2.out hb.out);clear HX;go_wp2_with fail;((with_reducible refine HS.out.mono ?_));rintro e w2 ⟨rfl,rfl⟩;go_wp2_with fail;go_ret3;exact ⟨_,by rw [HX2.out];rfl,by rw [HX2.out];exact Toks.nil _ _,HB.out⟩
   ·by_cases hql:q=s.length
    ·have hqb:((q:Int)==(s.length:Int))=true:=by rw [beq_iff_eq];omega
     have HX2:Hid (X=(l,0,0)):=Za (by rw [HX.out];exact Qo7 hb.out (by rw [E1.out];exact List.drop_eq_nil_of_le (by omega)));clear hql HX;go_wp2_with fail;((with_reducible refine HS.out.mono ?_));rintro e w2 ⟨rfl,rfl⟩;go_wp2_with fail;go_ret3;exact ⟨_,by rw [HX2.out];rfl,by rw [HX2.out];exact HO.out,HB.out⟩
    ·have hqb:((q:Int)==(s.length:Int))=false:=by rw [beq_eq_false_iff_ne];omega
     have hqlt:q<s.length:=by omega
     have HI:=Za (fun w=>Qq5 s q w (by omega) hqlt);obtain ⟨o,ho⟩:∃ o,Hid (QcD (s.drop q)=o):=⟨_,Za rfl⟩;rw [ho.out] at HI;clear hql;go_wp2_with fail;((with_reducible refine HS.out.mono ?_));rintro e w2 ⟨rfl,rfl⟩;go_wp2_with fail;((with_reducible refine (HI.out _).mono ?_));rintro e w2 ⟨⟨a,b,d,n,c,rfl,HE0,HE⟩,hb2⟩;have HO2:=Za (HO.out.below hb2);have HB2:=Za (Qah HB.out Zc hb2);clear hb2 HS HI;unfold QbB;cases o with
     | none =>
       have HX2:Hid (X=([],q,2)):=Za (by rw [HX.out];exact Qq8 E2.out hb.out E1.out hqlt ho.out);obtain rfl:=HE0 rfl;clear HX HE ho HE0;go_wp2_with fail;go_ret3;refine ⟨_,by rw [HX2.out];rfl,by rw [HX2.out];exact Toks.nil _ _,?_⟩;exact HB2.out.alloc HB2.out.size _
     | some x =>
       obtain ⟨k,v,t,nn⟩:=x;obtain ⟨rfl,rfl,rfl,rfl,rfl⟩:=HE _ rfl;have hn:1<=nn/\nn<=(s.drop q).length:=QgD ho.out;rw [List.length_drop] at hn;have HX2:Hid (X=QeH s (q+nn) (l++[⟨k,v,c,q⟩])):=Za (by rw [HX.out];exact Qo8 hq1 E2.out hb.out E1.out hqlt ho.out);clear HX HE ho HE0;simp only [];obtain ⟨z,hz⟩:∃ z,q+nn=z:=⟨_,rfl⟩;rw [hz] at HX2 |-;go_wp2_with (at_builtin;refine Qii rfl _ _ rfl w.heap.size _ l rfl ((HO2.out.alloc _).alloc _) (w2.heap.size+1) ⟨k,v,c,q⟩ rfl (Qul _ _ _) (by omega) (QhL HB2.out _ _ Zc).size ?_;intro v3 w3 ho3 hg;have HO3:=Za ho3;have HB3:=Za (Toks.kept ((HO2.out.alloc _).alloc _) (QhL HB2.out _ _ Zc) hg (QhL HB2.out _ _ Zc).size Zc);clear ho3 hg);go_roundw
       case rel=>exact ⟨z,l++[⟨k,v,c,q⟩],by go_num,by omega,by rw [List.length_append];simp;omega,HX2,HO3,HB3⟩
       case measure=>simp [intOf];omega
end
section
open Go.RowKit
attribute [local go_sem] ByteArray.mk_append_mk Qac Qad Qae
end
section
open Go.RowKit
attribute [local go_sem] ByteArray.mk_append_mk Qac Qad Qae
theorem Ql2 (s:List UInt8):∀ (f p:Nat) (acc:List Tok),acc.length<=p->p<=s.length->(QdN s f p acc).1.length<=s.length
 | 0,p,acc,h,hp=>by rw [QdN];exact Nat.le_trans h hp
 | f+1,p,acc,h,hp=>by
   obtain ⟨q,hq1,hq2,e1,e2⟩:=QfT s p hp;unfold QdN;rw [e2,e1];split
   ·simp
   ·split
    ·simp only [];omega
    ·split
     ·simp
     ·next k v t n hi =>
      have hn:1<=n/\n<=(s.drop q).length:=QgD hi;rw [List.length_drop] at hn;exact Ql2 s f (q+n) _ (by rw [List.length_append];simp;omega) (by omega)
theorem Qra (s:List UInt8):(QeF s).1.length<=65536:=by
 unfold QeF;split
 ·simp
 ·have:=Ql2 s (s.length+1) 0 [] (by simp) (by omega);omega
end
end Go.Proofs.YtoohondkpddmcaaGreatDoor
