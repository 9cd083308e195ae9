/- Pb Pc Pd -/
import Derived.Test.YtoohondkpddmcaaGreatDoorYzz
import Derived.Test.YtoohondkpddmcaaGreatDoorYbq
namespace Go.Proofs.YtoohondkpddmcaaGreatDoor
set_option maxHeartbeats 32000000
set_option linter.unusedVariables false
set_option linter.unusedSimpArgs false
section
open Go.RowKit
attribute [local go_sem] ByteArray.mk_append_mk Qah Qai Qag
def NdG (t:Nd):Prop:=t.str.length<=6/\0<=t.num/\t.num<=18446744073709551615
def QaR (op:Int):Prop:=10<=op/\op<=12\/op=14\/op=16\/op=17\/op=31\/op=32
inductive Tre:Nat->List Nd->Prop
 | flat (h:Nat) (n:Nd) (ks:List (List Nd)) (hp:n.pos=ks.length) (hn:¬ QaR n.kind) (hk:∀ k∈ks,Tre h k):Tre h (n::ks.flatten)
 | nest (h:Nat) (n:Nd) (ks:List (List Nd)) (hp:n.pos=ks.length) (hk:∀ k∈ks,Tre h k):Tre (h+1) (n::ks.flatten)
theorem Tre.mono {h:Nat} {l:List Nd} (t:Tre h l):∀ {h':Nat},h<=h'->Tre h' l:=by
 induction t with
 | flat h n ks hp hn hk ih=>intro h' hh;exact .flat h' n ks hp hn (fun k hkk=>ih k hkk hh)
 | nest h n ks hp hk ih =>
   intro h' hh;obtain ⟨g,rfl⟩:∃ g,h'=g+1:=⟨h'-1,by omega⟩;exact .nest g n ks hp (fun k hkk=>ih k hkk (by omega))
def For6 (l:List Nd):Prop:=∃ ts:List (List Nd),l=ts.flatten/\∀ t∈ts,Tre 6 t
theorem For6.nil:For6 []:=⟨[],rfl,fun t h=>by cases h⟩
theorem For6.snoc {l l2:List Nd} (h:For6 l) (h2:Tre 6 l2):For6 (l++l2):=by
 obtain ⟨ts,rfl,h1⟩:=h;refine ⟨ts++[l2],by simp,fun t ht=>?_⟩;rcases List.mem_append.1 ht with h|h
 ·exact h1 t h
 ·simp only [List.mem_cons,List.not_mem_nil,or_false] at h;subst h;exact h2
def dpN (N:Nat):Nat:=if N<16 then 0 else if N<140 then 1 else if N<1000 then 2 else if N<6055 then 3 else if N<18173 then 4 else if N<54530 then 5 else 6
theorem Qhi {N M:Nat} (h:N<=M):dpN N<=dpN M:=by
 unfold dpN
 repeat' split
 all_goals omega
theorem Qu6 (N:Nat):dpN N<=6:=by
 unfold dpN
 repeat' split
 all_goals omega
theorem Qse:∀ (Ns:List Nat) (N:Nat),N∈Ns->N<=Ns.sum
 | [],N,h=>by cases h
 | a::r,N,h=>by
   rw [List.sum_cons];rcases List.mem_cons.1 h with rfl|h
   ·omega
   ·have:=Qse r N h;omega
def NV (w:World) (B N:Nat) (v:Value):Prop:=∃ ns:List Nd,NodesI w B v ns/\(∀ t∈ns,NdG t)/\ns.length<=N/\ns≠[]/\Tre (dpN N) ns
theorem NV.below {w w':World} {B N:Nat} {v:Value} (h:NV w B N v) (hb:Below w.heap.size w w'):NV w' B N v:=by
 obtain ⟨ns,h1,h2,h3⟩:=h;exact ⟨ns,h1.below hb,h2,h3⟩
theorem NV.base {w:World} {B B' N:Nat} {v:Value} (h:NV w B N v) (hB:B'<=B):NV w B' N v:=by
 obtain ⟨ns,h1,h2,h3⟩:=h;exact ⟨ns,Qfm h1 hB,h2,h3⟩
theorem NV.more {w:World} {B N M:Nat} {v:Value} (h:NV w B N v) (hN:N<=M):NV w B M v:=by
 obtain ⟨ns,h1,h2,h3⟩:=h;exact ⟨ns,h1,h2,by have:=h3.1;omega,h3.2.1,h3.2.2.mono (Qhi hN)⟩
theorem Qsf {w:World} {B:Nat} {v:Value} {l:List Nd} (h:NodesI w B v l) {C:Nat} {tv:Value} {i:Int} (hb:w.heap[C]?=some (QoR tv i)):v.ownBlock≠some C:=by
 intro e;obtain ⟨cur,hc⟩:=Qcp h e;rw [hb] at hc;injection hc with hc;injection hc with _ h2 _;exact absurd h2 (by decide)
theorem NV.keep {w w':World} {B N C:Nat} {v:Value} (h:NV w B N v) (hC:CSt w C) (hk:Keep C w w'):NV w' B N v:=by
 obtain ⟨ns,h1,h2,h3⟩:=h;obtain ⟨a,cap,i,l,hc,_⟩:=hC;exact ⟨ns,QdO h1 hk (fun g hg e=>Qsf h1 hc (by rw [hg,e])),h2,h3⟩
def KSl (w:World) (kv:Value) (vs:List Value):Prop :=
 ∃ (a:Option Addr) (cap:Nat),kv = .slice a vs.length cap/\(vs≠[]->∃ b off,a=some ⟨b,off,none⟩/\∀ i (h:i<vs.length),w.cell? ⟨b,off+i,none⟩=some vs[i])
theorem KSl.below {w w':World} {kv:Value} {vs:List Value} (h:KSl w kv vs) (hb:Below w.heap.size w w'):KSl w' kv vs:=by
 obtain ⟨a,cap,hv,hc⟩:=h;refine ⟨a,cap,hv,fun hn=>?_⟩;obtain ⟨b,off,ha,hk⟩:=hc hn;exact ⟨b,off,ha,fun i hi=>(hb.cell (p:=⟨b,off+i,none⟩) (World.block_lt_of_cell? w _ (hk i hi))).trans (hk i hi)⟩
theorem QoS:∀ (l:List Nd) (u:Value),u∈tcI l->u.oneCell'=true
 | [],u,h=>by cases h
 | t::r,u,h=>by
   simp only [tcI,List.mem_cons] at h;rcases h with rfl|rfl|rfl|rfl|h
   ·rfl
   ·rfl
   ·rfl
   ·rfl
   ·exact QoS r u h
theorem QdG {w:World} {ops:Array Oper} {rest:List Oper} {o:Oper} {a:Act} {Q:Exit->Act->World->Prop} (hgd:o.guard=none) (s x:Operand)
  (ho:o.op = .call { callee:=.builtin .append,args:=#[s,x],argTypes:=#[24,24] })
  (B:Nat) (v:Value) (l1:List Nd) (hs:a.eval s=v) (hown:NodesI w B v l1)
  (B2:Nat) (y:Value) (l2:List Nd) (hx:a.eval x=y) (hy:NodesI w B2 y l2) (hlen:l1.length+l2.length<=1000000) (hB:B<=w.heap.size)
  (h:∀ v' w',NodesI w' B v' (l1++l2)->w.grownBy w' v.ownBlock->wpList Tryz.prog ops Q rest (a.put o.dst v') w'):wpList Tryz.prog ops Q (o::rest) a w:=by
 obtain ⟨i0,hi,hz0,hz1,hz2⟩:=info_parts QlZ;rcases hy.2 with ⟨rfl,h0⟩|⟨g,cap,cur,rfl,hg,hb,hn,hm,hsz,ht⟩
 ·have hn:l2=[]:=List.eq_nil_of_length_eq_zero h0;subst hn;refine wpList_append_own_none hgd s x _ ho B 46 i0 4 Tryz.underlying24 hi v l1.length _ hs hown hx ?_;exact h v w (by simpa using hown) (World.grownBy.refl _ _)
 ·refine wpList_append_own _ hgd s x _ ho B 46 i0 _ 4 40 Tryz.underlying24 hi hz0 hz1 hz2 rfl (by decide) v l1.length _ hs hown ⟨g,0,none⟩ l2.length cap (tcI l2) hx (by rw [QcU]) ?_ ?_ (by unfold maxLen;omega) (by omega) hB ?_
  ·intro j z hj;have e:(⟨g,0,none⟩:Addr).add j=⟨g,j,none⟩:=by by_cases h:j=0<;>simp [Addr.add,h]
   have hjl:j<l2.length * 4:=by
    rcases Nat.lt_or_ge j (l2.length * 4) with h|h
    ·exact h
    ·rw [List.getElem?_eq_none (by rw [QcU];omega)] at hj;cases hj
   rw [e,World.ownsRow.cellAt hy j hjl];exact hj
  ·intro z hz;exact QoS l2 z hz
  ·intro v' w' h1 h2 _;refine h v' w' ?_ h2;unfold NodesI;rw [List.length_append,QdI];exact h1
theorem Qc2 {Ns:List Nat} {B K:Nat} (hK:K<=1+Ns.sum) (hB:dpN B+1<=dpN K) (h:∀ N∈Ns,N<=B):∃ g,dpN (1+Ns.sum)=g+1/\∀ N∈Ns,dpN N<=g:=by
 have hm:=Qhi hK;refine ⟨dpN (1+Ns.sum)-1,by omega,fun N hN=>?_⟩;have:=Qhi (h N hN);omega
def KT (Ns:List Nat) (n:Nd) (k:Nat) (l:List Nd):Prop:=∃ ks:List (List Nd),l=n::ks.flatten/\ks.length=k/\∀ j (h:j<ks.length),∃ h2:j<Ns.length,Tre (dpN Ns[j]) ks[j]
theorem KT.ne {Ns:List Nat} {n:Nd} {k:Nat} {l:List Nd} (h:KT Ns n k l):l≠[]:=by
 obtain ⟨ks,rfl,_⟩:=h;simp
theorem KT.snoc {Ns:List Nat} {n:Nd} {k:Nat} {l l2:List Nd} (h:KT Ns n k l) (hk:k<Ns.length) (ht2:Tre (dpN Ns[k]) l2):KT Ns n (k+1) (l++l2):=by
 obtain ⟨ks,rfl,hl,hj⟩:=h;refine ⟨ks++[l2],by simp,by simp [hl],fun j hjl=>?_⟩;by_cases hjk:j<ks.length
 ·rw [List.getElem_append_left hjk];exact hj j hjk
 ·have hjk2:j=k:=by rw [List.length_append,List.length_singleton] at hjl;omega
  subst hjk2;refine ⟨hk,?_⟩;rw [List.getElem_append_right (by omega)];simp only [hl,Nat.sub_self,List.getElem_singleton];exact ht2
theorem KT.tre {Ns:List Nat} {op num:Int} {s:List UInt8} {k:Nat} {l:List Nd} (h:KT Ns ⟨op,num,s,k⟩ k l) (hk:Ns.length=k) (hnp:QaR op->∃ g,dpN (1+Ns.sum)=g+1/\∀ N∈Ns,dpN N<=g):Tre (dpN (1+Ns.sum)) l:=by
 obtain ⟨ks,rfl,hl,hj⟩:=h;have key:∀ x∈ks,∃ N∈Ns,Tre (dpN N) x:=by
  intro x hx;obtain ⟨j,hjl,rfl⟩:=List.mem_iff_getElem.1 hx;obtain ⟨h2,h3⟩:=hj j hjl;exact ⟨_,List.getElem_mem h2,h3⟩
 by_cases hn:QaR op
 ·obtain ⟨g,hg,hall⟩:=hnp hn;rw [hg];refine .nest g _ ks (by simp [hl]) (fun x hx=>?_);obtain ⟨M,hM,hx2⟩:=key x hx;exact hx2.mono (hall M hM)
 ·refine .flat _ _ ks (by simp [hl]) hn (fun x hx=>?_);obtain ⟨M,hM,hx2⟩:=key x hx;exact hx2.mono (Qhi (by have:=Qse Ns M hM;omega))
theorem QmQ:∀ (l:List Nat) (k:Nat) (h:k<l.length),(l.take (k+1)).sum=(l.take k).sum+l[k]
 | a::r,0,h=>by simp
 | a::r,k+1,h=>by
   have:=QmQ r k (by simpa using h);simp only [List.take_succ_cons,List.sum_cons,List.getElem_cons_succ] at this |-;omega
theorem QfF:∀ (l:List Nat) (k:Nat),(l.take k).sum<=l.sum
 | [],k=>by simp
 | a::r,0=>by simp
 | a::r,k+1=>by
   have:=QfF r k;simp only [List.take_succ_cons,List.sum_cons];omega
set_option maxRecDepth 100000 in
theorem QcP (op num:Int) (s:List UInt8) (kv:Value) (vs:List Value) (Ns:List Nat) (w:World) (hs:s.length<=6) (hn0:0<=num/\num<=18446744073709551615) (hnp:QaR op->∃ g,dpN (1+Ns.sum)=g+1/\∀ N∈Ns,dpN N<=g) (hk:KSl w kv vs) (hNl:Ns.length=vs.length) (hv:∀ i (h:i<vs.length) (h2:i<Ns.length),NV w 0 Ns[i] vs[i]) (hm:vs.length<=10000) (h1:1+Ns.sum<=900000) :
  Calls Tryz.prog 94 #[.int .i64 op,.int .u64 num,.string ⟨s.toArray⟩,kv] w fun e w'=>∃ v,e = .returned v/\NV w' w.heap.size (1+Ns.sum) v/\Below w.heap.size w w':=by
 have HKS:=Za hk;have HVS:=Za hv;obtain ⟨a,cap,rfl,hc⟩:=hk;have HC:=Za hc;obtain ⟨P,hP⟩:∃ P,w.heap.size=P:=⟨_,rfl⟩;have HPE:=Za hP;have HR0:Hid (NodesI (w.alloc (Qae op num s vs.length)) P (.slice (some ⟨P,0,none⟩) 1 1) [⟨op,num,s,vs.length⟩]):=Za (by rw [<- hP];exact World.ownsRow_lit w (tcI [⟨op,num,s,vs.length⟩]).toArray 1 Zc (by unfold maxLen;omega) rfl);have HB0:Hid (Below P w (w.alloc (Qae op num s vs.length))):=Za (Zb.alloc (by omega) _);obtain ⟨M,hM⟩:∃ M,vs.length=M:=⟨_,rfl⟩;have HM:=Za hM;have HNL:=Za hNl;have HNP:=Za hnp;have HKT0:Hid (KT Ns ⟨op,num,s,vs.length⟩ 0 [⟨op,num,s,vs.length⟩]):=Za ⟨[],rfl,rfl,fun j h=>(by cases h)⟩;rw [hM] at hm HR0 HB0 HKS HKT0;rw [hP,hM];clear hv hc hNl hnp;go_enter Tryz.func94,Tryz.ntmps94;go_upto_region 2 with fail;(try simp only [hP]);generalize w.alloc (Qae op num s M)=W0 at HR0 HB0 |-;clear hP hM;go_wp2_with fail;go_loopw [9,10] (fun x i wr=>∃ (v:Value) (k:Nat) (ns:List Nd),v=x/\i = .int .i64 k/\k<=M/\ns.length<=1+(Ns.take k).sum/\Hid (KT Ns ⟨op,num,s,M⟩ k ns)/\Hid (NodesI wr P v ns)/\Hid (∀ t∈ns,NdG t)/\Hid (Below P w wr)) (fun _ i _=>M-(intOf i).toNat)
 case atStart=>exact ⟨_,0,_,rfl,rfl,by omega,by simp,HKT0,HR0,Za (by intro t ht;simp only [List.mem_cons,List.not_mem_nil,or_false] at ht;subst ht;exact ⟨hs,hn0⟩),HB0⟩
 case round =>
  clear HR0 HB0 HKT0;obtain ⟨v,k,ns,rfl,rfl,hkM,hnl,HKT,HR,HG,HB⟩:=hrel;obtain ⟨w3,rfl⟩:∃ y:World,y=wr:=⟨_,rfl⟩;have hsz:P<=w3.heap.size:=by have:=HB.out.size;have:=HPE.out;omega
  by_cases hlt:k<M
  ·have hlt':(k:Int)<(M:Int):=by omega
   have hkl:k<vs.length:=by rw [HM.out];exact hlt
   obtain ⟨b,off,rfl,hcell⟩:=HC.out (by rintro rfl;simp at hkl);have c0:=hcell k hkl;obtain ⟨y,hy⟩:∃ y,vs[k]=y:=⟨_,rfl⟩;rw [hy] at c0;have hbw:b<w.heap.size:=World.block_lt_of_cell? w _ c0;have d0:w3.cell? ⟨b,off+k,none⟩=some y:=(HB.out.cell (p:=⟨b,off+k,none⟩) (by rw [<- HPE.out];exact hbw)).trans c0;have hkN:k<Ns.length:=by rw [HNL.out];exact hkl
   have hvk:=HVS.out k hkl hkN;rw [hy] at hvk;obtain ⟨l2,j1,j2,j3,_,j5⟩:=hvk;have HKT2:Hid (KT Ns ⟨op,num,s,M⟩ (k+1) (ns++l2)):=Za (HKT.out.snoc hkN j5);have HY:Hid (NodesI w3 0 y l2):=Za (j1.below (HB.out.mono (by rw [HPE.out];exact Nat.le_refl _)));have HG2:=Za j2;have hkk:=QmQ Ns k hkN;have hkb:=QfF Ns k;have hkb2:=QfF Ns (k+1);obtain ⟨sk,hsk⟩:∃ z,(Ns.take k).sum=z:=⟨_,rfl⟩;obtain ⟨sk1,hsk1⟩:∃ z,(Ns.take (k+1)).sum=z:=⟨_,rfl⟩;obtain ⟨nk,hnk⟩:∃ z,Ns[k]=z:=⟨_,rfl⟩;rw [hsk] at hnl hkk hkb;rw [hsk1,hnk] at hkk;rw [hnk] at j3;clear hcell c0 hy j1 j2 j5 HKT;go_wp2_with (at_builtin;refine QdG rfl _ _ rfl P v ns rfl HR.out 0 y l2 rfl HY.out (by omega) hsz ?_;intro v2 w2 ho hg;have HO:=Za ho;have HGR:=Za hg;clear ho hg);have HB5:Hid (Below P w w2):=Za (HB.out.grown HGR.out hsz (fun j hj=>QaN HR.out hj));have HG5:Hid (∀ t∈ns++l2,NdG t):=Za (fun t ht=>by
    rcases List.mem_append.1 ht with h|h
    ·exact HG.out t h
    ·exact HG2.out t h)
   have hln:(ns++l2).length<=1+(Ns.take (k+1)).sum:=by rw [List.length_append,hsk1];omega
   clear HGR d0 HY HR;go_wp2_with fail;go_roundw
   case rel=>first|exact ⟨k+1,ns++l2,by go_num,by omega,hln,HKT2,HO,HG5,HB5⟩|exact ⟨_,k+1,ns++l2,rfl,by go_num,by omega,hln,HKT2,HO,HG5,HB5⟩
   case measure=>simp [intOf];omega
  ·have hlt':¬ (k:Int)<(M:Int):=by omega
   have hkM2:k=M:=by omega
   go_wp2_with fail;go_ret;subst hkM2;exact ⟨_,rfl,⟨ns,HR.out,HG.out,by rw [List.take_of_length_le (by rw [HNL.out,HM.out];omega)] at hnl;exact hnl,HKT.out.ne,HKT.out.tre (by rw [HNL.out,HM.out]) HNP.out⟩,HB.out⟩
theorem Qal (op:Int) (kv:Value) (vs:List Value) (Ns:List Nat) (w:World) (hnp:QaR op->∃ g,dpN (1+Ns.sum)=g+1/\∀ N∈Ns,dpN N<=g) (hk:KSl w kv vs) (hNl:Ns.length=vs.length) (hv:∀ i (h:i<vs.length) (h2:i<Ns.length),NV w 0 Ns[i] vs[i]) (hm:vs.length<=10000) (h1:1+Ns.sum<=900000) :
  Calls Tryz.prog 46 #[.int .i64 op,kv] w fun e w'=>∃ v,e = .returned v/\NV w' w.heap.size (1+Ns.sum) v/\Below w.heap.size w w':=by
 have HN:=Za (QcP op 0 [] kv vs Ns w (by simp) (by omega) hnp hk hNl hv hm h1);generalize 1+Ns.sum=NN at HN |-;clear hk hv hm h1 hNl hnp;go_enter Tryz.func46,Tryz.ntmps46;go_wp2_with fail;((with_reducible refine HN.out.mono ?_));rintro e w1 ⟨v,rfl,hv,hb⟩;have HV:=Za hv;have HB:=Za hb;clear hv hb;go_wp2_with fail;go_ret;exact ⟨_,rfl,HV.out,HB.out⟩
theorem KSl.nil (w:World):KSl w (.slice none 0 0) []:=⟨none,0,rfl,fun h=>absurd rfl h⟩
theorem Qbb (n:Int) (w:World) (hn:0<=n/\n<=18446744073709551615) :
  Calls Tryz.prog 48 #[.int .u64 n] w fun e w'=>∃ v,e = .returned v/\NV w' w.heap.size 1 v/\Below w.heap.size w w':=by
 have HN:=Za (QcP 1 n [] _ [] [] w (by simp) hn (fun h=>by unfold QaR at h;omega) (KSl.nil w) rfl (fun i h=>by cases h) (by simp) (by simp));simp only [List.sum_nil,Nat.add_zero] at HN;go_enter Tryz.func48,Tryz.ntmps48;go_wp2_with fail;((with_reducible refine HN.out.mono ?_));rintro e w1 ⟨v,rfl,hv,hb⟩;have HV:=Za hv;have HB:=Za hb;clear hv hb;go_wp2_with fail;go_ret;exact ⟨_,rfl,HV.out,HB.out⟩
theorem QaL (s:List UInt8) (w:World) (hs:s.length<=6) :
  Calls Tryz.prog 47 #[.string ⟨s.toArray⟩] w fun e w'=>∃ v,e = .returned v/\NV w' w.heap.size 1 v/\Below w.heap.size w w':=by
 have HN:=Za (QcP 3 0 s _ [] [] w hs (by omega) (fun h=>by unfold QaR at h;omega) (KSl.nil w) rfl (fun i h=>by cases h) (by simp) (by simp));simp only [List.sum_nil,Nat.add_zero] at HN;clear hs;go_enter Tryz.func47,Tryz.ntmps47;go_wp2_with fail;((with_reducible refine HN.out.mono ?_));rintro e w1 ⟨v,rfl,hv,hb⟩;have HV:=Za hv;have HB:=Za hb;clear hv hb;go_wp2_with fail;go_ret;exact ⟨_,rfl,HV.out,HB.out⟩
end
section
open Go.RowKit
attribute [local go_sem] ByteArray.mk_append_mk Qah Qai Qag
theorem QmR (C:Nat) (n:Int) (w:World) (h:CSt w C) :
  Calls Tryz.prog 57 #[.int .i64 n] w fun e w'=>∃ s:List UInt8,e = .returned (.string ⟨s.toArray⟩)/\s.length<=4/\CSt w' C/\Keep C w w' :=
 (QtV n w).mono fun e w' ⟨s,h1,h2,h3⟩=>⟨s,h1,h2,h.keep h3,Keep.of h3⟩
theorem QeV (C:Nat) (w:World) (h:CSt w C) :
  Calls Tryz.prog 95 #[.pointer (some ⟨C,0,none⟩)] w fun e w'=>∃ s:List UInt8,e = .returned (.string ⟨s.toArray⟩)/\s.length<=5/\CSt w' C/\Keep C w w':=by
 have HN:=Za (Qan C 6 w h (by omega) (by omega));clear h;go_enter Tryz.func95,Tryz.ntmps95;go_wp2_with fail;((with_reducible refine HN.out.mono ?_));rintro e w1 ⟨k,rfl,hk,hc1,hk1⟩;have HN2:=Za (Qan C 10 w1 hc1 (by omega) (by omega));have HK1:=Za hk1;have hcs:(((k:Int)==4)=true)\/(((k:Int)==4)=false/\((k:Int)==5)=true)\/(((k:Int)==4)=false/\((k:Int)==5)=false):=by
  cases (k:Int)==4<;>cases (k:Int)==5<;>simp
 clear hc1 hk1 HN hk;rcases hcs with t1|⟨t1,t2⟩|⟨t1,t2⟩
 all_goals
  go_wp2_with fail;((with_reducible refine HN2.out.mono ?_));rintro e w2 ⟨k2,rfl,hk2,hc2,hkk2⟩;have HS:=Za (QmR C k2 w2 hc2);have HK2:=Za (HK1.out.trans hkk2);clear hc2 hkk2 hk2;go_wp2_with fail;((with_reducible refine HS.out.mono ?_));rintro e w3 ⟨s,rfl,hs,hc3,hk3⟩;have HC3:=Za hc3;have HK3:=Za (HK2.out.trans hk3);clear hc3 hk3;go_wp2_with fail;go_ret;exact ⟨_,rfl,by first|omega|(simp only [List.length_append,List.length_cons,List.length_nil];omega),HC3.out,HK3.out⟩
theorem Qij (C:Nat) (w:World) (h:CSt w C) :
  Calls Tryz.prog 50 #[.pointer (some ⟨C,0,none⟩)] w fun e w'=>∃ n:Int,e = .returned (.int .u64 n)/\(0<=n/\n<=18446744073709551615)/\CSt w' C/\Keep C w w':=by
 have HN:=Za (Qan C 8 w h (by omega) (by omega));clear h;go_enter Tryz.func50,Tryz.ntmps50;go_wp2_with fail;((with_reducible refine HN.out.mono ?_));rintro e w1 ⟨k,rfl,hk,hc1,hk1⟩;have HC1:=Za hc1;have HN2:=Za (Qan C 9 w1 hc1 (by omega) (by omega));have HN3:=Za (Qan C 1073741824 w1 hc1 (by omega) (by omega));have HK1:=Za hk1;have hcs:(((k:Int)==6)=true)\/(((k:Int)==6)=false/\((k:Int)==7)=true)\/(((k:Int)==6)=false/\((k:Int)==7)=false):=by
  cases (k:Int)==6<;>cases (k:Int)==7<;>simp
 clear hc1 hk1 HN hk;rcases hcs with t1|⟨t1,t2⟩|⟨t1,t2⟩
 ·go_wp2_with fail;go_ret;exact ⟨_,rfl,by omega,HC1.out,HK1.out⟩
 ·go_wp2_with fail;((with_reducible refine HN3.out.mono ?_));rintro e w2 ⟨k2,rfl,hk2,hc2,hkk2⟩;have HC2:=Za hc2;have HK2:=Za (HK1.out.trans hkk2);clear hc2 hkk2;go_wp2_with fail;go_ret;exact ⟨_,rfl,by omega,HC2.out,HK2.out⟩
 ·go_wp2_with fail;((with_reducible refine HN2.out.mono ?_));rintro e w2 ⟨k2,rfl,hk2,hc2,hkk2⟩;have HC2:=Za hc2;have HK2:=Za (HK1.out.trans hkk2);clear hc2 hkk2;go_wp2_with fail;go_ret;exact ⟨_,rfl,by omega,HC2.out,HK2.out⟩
def KRow (w:World) (B:Nat) (v:Value) (vs:List Value):Prop:=w.ownsRow B 24 1 v vs.length vs
theorem Qsg:(Tryz.prog.info? 24).map (fun i=>(i.zero,i.size,i.bytes))=some (some (.slice none 0 0),1,24):=by kernel_rfl
theorem KRow.form {w:World} {B:Nat} {v:Value} {vs:List Value} (h:KRow w B v vs):∃ a c,v = .slice a vs.length c:=by
 rcases h.2 with ⟨rfl,h0⟩|⟨g,cap,cur,rfl,_⟩
 ·exact ⟨none,0,by rw [h0]⟩
 ·exact ⟨_,cap,rfl⟩
theorem KRow.sl {w:World} {B:Nat} {v:Value} {vs:List Value} (h:KRow w B v vs):KSl w v vs:=by
 rcases h.2 with ⟨rfl,h0⟩|⟨g,cap,cur,rfl,_⟩
 ·exact ⟨none,0,by rw [h0],fun hn=>absurd (List.eq_nil_of_length_eq_zero h0) hn⟩
 ·exact ⟨_,cap,rfl,fun _=>⟨g,0,rfl,fun i hi=>by rw [World.ownsRow.cellAt h (0+i) (by omega),Nat.zero_add,List.getElem?_eq_getElem hi]⟩⟩
theorem KRow.below {w w':World} {B:Nat} {v:Value} {vs:List Value} (h:KRow w B v vs) (hb:Below w.heap.size w w'):KRow w' B v vs:=QbH h hb
theorem KRow.keep {w w':World} {B C:Nat} {v:Value} {vs:List Value} (h:KRow w B v vs) (hC:CSt w C) (hk:Keep C w w'):KRow w' B v vs:=by
 obtain ⟨a,cap,i,l,hc,_⟩:=hC;refine QdO h hk (fun g hg e=>?_);injection e with e;obtain ⟨cur,hcur⟩:=Qcp h hg;rw [<- e,hc] at hcur;injection hcur with hcur;injection hcur with _ h2 _;exact absurd h2 (by decide)
theorem KRow.nil (w:World) (B:Nat):KRow w B (.slice none 0 0) []:=⟨rfl,.inl ⟨rfl,rfl⟩⟩
theorem Qa2 {w:World} {ops:Array Oper} {rest:List Oper} {o:Oper} {a:Act} {Q:Exit->Act->World->Prop} (hgd:o.guard=none) (s x:Operand)
  (ho:o.op = .call { callee:=.builtin .append,args:=#[s,x],argTypes:=#[133,133] })
  (B:Nat) (v:Value) (vs:List Value) (hs:a.eval s=v) (hown:KRow w B v vs) (g:Nat) (t:Value) (ht:t.oneCell'=true)
  (hx:a.eval x = .slice (some ⟨g,0,none⟩) 1 1) (hb:w.heap[g]?=some (.cells #[t] 24 (0,0))) (hlen:vs.length<=100000) (hB:B<=w.heap.size)
  (h:∀ v' w',KRow w' B v' (vs++[t])->w.grownBy w' v.ownBlock->wpList Tryz.prog ops Q rest (a.put o.dst v') w'):wpList Tryz.prog ops Q (o::rest) a w:=by
 obtain ⟨i0,hi,hz0,hz1,hz2⟩:=info_parts Qsg;refine wpList_append_own _ hgd s x _ ho B 24 i0 _ 1 24 Tryz.underlying133 hi hz0 hz1 hz2 rfl (by decide) v vs.length _ hs hown ⟨g,0,none⟩ 1 1 [t] hx rfl ?_ ?_ (by unfold maxLen;omega) (by omega) hB ?_
 ·intro j z hj
  match j,hj with
  | 0,hj=>cases hj;exact cell_of_row w g 0 _ _ (0,0) hb
 ·intro z hz;simp only [List.mem_cons,List.not_mem_nil,or_false] at hz;rw [hz];exact ht
 ·intro v' w' h1 h2 _;refine h v' w' ?_ h2;unfold KRow;rw [List.length_append];exact h1
def GPost (C N:Nat) (w:World) (e:Ending) (w':World):Prop:=∃ v,e = .returned v/\NV w' w.heap.size N v/\CSt w' C/\Keep C w w'
theorem GPost.more {C N M:Nat} {w w':World} {e:Ending} (h:GPost C N w e w') (hN:N<=M):GPost C M w e w':=by
 obtain ⟨v,h1,h2,h3,h4⟩:=h;exact ⟨v,h1,h2.more hN,h3,h4⟩
theorem NV.one {w:World} {B N:Nat} {v:Value} (h:NV w B N v):v.oneCell'=true:=by
 obtain ⟨ns,h1,_⟩:=h;obtain ⟨a,c,rfl⟩:=h1.form;rfl
def NVs (w:World) (N:Nat) (vs:List Value):Prop:=∀ v∈vs,NV w 0 N v
theorem NVs.keep {w w':World} {N C:Nat} {vs:List Value} (h:NVs w N vs) (hC:CSt w C) (hk:Keep C w w'):NVs w' N vs:=fun v hv=>(h v hv).keep hC hk
theorem NVs.below {w w':World} {N:Nat} {vs:List Value} (h:NVs w N vs) (hb:Below w.heap.size w w'):NVs w' N vs:=fun v hv=>(h v hv).below hb
theorem NVs.nil (w:World) (N:Nat):NVs w N []:=fun v hv=>by cases hv
theorem NVs.snoc {w:World} {N:Nat} {vs:List Value} {v:Value} (h:NVs w N vs) (hv:NV w 0 N v):NVs w N (vs++[v]):=fun x hx=>by
 rcases List.mem_append.1 hx with hx|hx
 ·exact h x hx
 ·simp only [List.mem_cons,List.not_mem_nil,or_false] at hx;subst hx;exact hv
theorem NV.grownRow {w w':World} {B B2 N:Nat} {v kv:Value} {vs:List Value} (h:NV w B N v) (hk:KRow w B2 kv vs) (hg:w.grownBy w' kv.ownBlock):NV w' B N v:=by
 obtain ⟨ns,h1,h2,h3⟩:=h;refine ⟨ns,QdO h1 hg (fun g hv e=>?_),h2,h3⟩;obtain ⟨cur,hc⟩:=Qcp h1 hv;obtain ⟨cur2,hc2⟩:=Qcp hk e;rw [hc] at hc2;injection hc2 with hc2;injection hc2 with _ h2 _;exact absurd h2 (by decide)
theorem NVs.grownRow {w w':World} {B2 N:Nat} {us vs:List Value} {kv:Value} (h:NVs w N us) (hk:KRow w B2 kv vs) (hg:w.grownBy w' kv.ownBlock):NVs w' N us:=fun v hv=>(h v hv).grownRow hk hg
theorem NVs.each {w:World} {N:Nat} {vs:List Value} (h:NVs w N vs):∀ i (hi:i<vs.length) (h2:i<(List.replicate vs.length N).length),NV w 0 (List.replicate vs.length N)[i] vs[i]:=fun i hi h2=>by
 rw [List.getElem_replicate];exact h _ (List.getElem_mem hi)
end
section
open Go.RowKit
attribute [local go_sem] ByteArray.mk_append_mk Qah Qai Qag
theorem NV.form {w:World} {B N:Nat} {v:Value} (h:NV w B N v):∃ a n c,v = .slice a n c:=by
 obtain ⟨ns,h1,_⟩:=h;obtain ⟨a,c,rfl⟩:=h1.form;exact ⟨a,_,c,rfl⟩
theorem KSl.lit (w:World) (vs:List Value) (n:Nat) (hn:n=vs.length):KSl (w.alloc (.cells vs.toArray 24)) (.slice (some ⟨w.heap.size,0,none⟩) n n) vs:=by
 subst hn;refine ⟨_,_,rfl,fun _=>⟨_,0,rfl,fun i hi=>?_⟩⟩;rw [cell_of_row _ _ _ _ _ (0,0) (heap_alloc_new w (.cells vs.toArray 24)),Nat.zero_add];simp [hi]
abbrev dsO:Obj:=.cells #[.string ⟨#[]⟩,.string ⟨#[120]⟩,.string ⟨#[48,70]⟩,.string ⟨#[49,50,97,98]⟩,.string ⟨#[0,255,34,92]⟩] 9
def dsL:List (List UInt8):=[[],[120],[48,70],[49,50,97,98],[0,255,34,92]]
theorem Qvy:∀ k:Fin 5,∃ x∈dsL,dsL[k.val]?=some x/\x.length<=4:=by decide +kernel
theorem QtW {w:World} {A:Nat} (h:w.heap[A]?=some dsO) (k:Nat) (hk:k<5):∃ x:List UInt8,x.length<=4/\w.cell? ⟨A,k,none⟩=some (.string ⟨x.toArray⟩):=by
 obtain ⟨x,_,h1,h2⟩:=Qvy ⟨k,hk⟩;refine ⟨x,h2,?_⟩;rw [cell_of_row w A k _ _ (0,0) h];have e:(dsL.map QbT).toArray[k]?=some (QbT x):=by
  have h1':dsL[k]?=some x:=h1;rw [List.getElem?_toArray,List.getElem?_map,h1'];rfl
 exact e
theorem Qbj (m K:Nat):(List.replicate m K).sum=m * K:=by
 induction m with
 | zero=>simp
 | succ m ih=>rw [List.replicate_succ,List.sum_cons,ih,Nat.add_mul];omega
def Qfk:Nat->Nat
 | 0=>6
 | d+1=>3+3 * Qfk d
theorem Qsh (d:Nat) (h:d<=5):Qfk d<=3000:=by
 match d,h with
 | 0,_=>exact (by decide)
 | 1,_=>exact (by decide)
 | 2,_=>exact (by decide)
 | 3,_=>exact (by decide)
 | 4,_=>exact (by decide)
 | 5,_=>exact (by decide)
theorem QhJ:∀ d,6<=Qfk d
 | 0=>Nat.le_refl _
 | d+1=>by have:=QhJ d;unfold Qfk;omega
def QhK (C d:Nat):Prop:=∀ w,CSt w C->Calls Tryz.prog 49 #[.pointer (some ⟨C,0,none⟩),.int .i64 d] w (GPost C (Qfk d) w)
set_option maxRecDepth 100000 in
theorem Qk3 (C d:Nat) (hd:d<=5) (ih:∀ d',d=d'+1->QhK C d'):QhK C d:=by
 intro w hc;have IH:=Za ih;have HN:=Za (Qan C 5 w hc (by omega) (by omega));have HPOS:=Za (QhJ d);have HCW:=Za hc;clear hc ih;go_enter Tryz.func49,Tryz.ntmps49;go_wp2_with fail;((with_reducible refine HN.out.mono ?_));rintro e w1 ⟨k,rfl,hk,hc1,hk1⟩;have HC1:=Za hc1;have HK1:=Za hk1;clear hc1 hk1 HN;by_cases c1:k=1
 ·subst c1;have hA:(w1.alloc dsO).heap[w1.heap.size]?=some dsO:=heap_alloc_new _ _;have hB:Below w1.heap.size w1 (w1.alloc dsO):=Zb.alloc Zc _;have HC2:=Za (HC1.out.keep hB);have HK2:Hid (Keep C w (w1.alloc dsO)):=Za (HK1.out.trans (Keep.of hB));have hCA:C<w1.heap.size:=HC1.out.lt;have HA:=Za hA;have HNX:=Za (Qan C 5 (w1.alloc dsO) HC2.out (by omega) (by omega));clear hA hB;go_wp2_with fail;((with_reducible refine HNX.out.mono ?_));rintro e w2 ⟨k2,rfl,hk2,hc3,hk3⟩;have hA2:w2.heap[w1.heap.size]?=some dsO:=(hk3.block _ (lt_of_block HA.out) (fun e=>by injection e with e;omega)).trans HA.out;obtain ⟨x,hx,e0⟩:=QtW hA2 k2 (by omega);have hk25:(k2:Int)<5:=hk2;have HK3:=Za (HK2.out.trans hk3);have HC3:=Za hc3;have HG:=Za (QcP 2 0 x _ [] [] w2 (by omega) (by omega) (fun h=>by unfold QaR at h;omega) (KSl.nil w2) rfl (fun i h=>by cases h) (by simp) (by simp));simp only [List.sum_nil,Nat.add_zero] at HG;clear hc3 hk3 HNX HC2 HK2 hA2 HA;go_wp2_with fail;((with_reducible refine HG.out.mono ?_));rintro e w3 ⟨v,rfl,hv,hb⟩;have HV:=Za ((hv.base (B':=w.heap.size) HK3.out.size).more (M:=Qfk d) (by have:=HPOS.out;omega));have HC4:=Za (HC3.out.keep hb);have HK4:=Za (HK3.out.trans (Keep.of hb));clear hv hb;go_wp2_with fail;go_ret;exact ⟨_,rfl,HV.out,HC4.out,HK4.out⟩
 have t1:((k:Int)==1)=false:=by rw [beq_eq_false_iff_ne];omega
 by_cases c2:k=2
 ·subst c2;have HNX:=Za (Qan C 4 w1 HC1.out (by omega) (by omega));go_wp2_with fail;((with_reducible refine HNX.out.mono ?_));rintro e w2 ⟨k2,rfl,hk2,hc3,hk3⟩;have HK3:=Za (HK1.out.trans hk3);have HC3:=Za hc3;clear hc3 hk3 HNX;go_wp2_with fail;go_loopw [5,6] (fun x i wr=>∃ (v:Value) (vs:List Value) (q:Nat),v=x/\i = .int .i64 q/\q+vs.length<=3/\Hid (KRow wr w.heap.size v vs)/\Hid (NVs wr 1 vs)/\Hid (CSt wr C)/\Hid (Keep C w wr)) (fun _ i _=>(intOf i).toNat)
  case atStart=>exact ⟨_,[],k2,rfl,rfl,by simp;omega,Za (KRow.nil _ _),Za (NVs.nil _ _),HC3,HK3⟩
  case round =>
   clear HC3 HK3;obtain ⟨v,vs,q,rfl,rfl,hq,HR,HV,HC,HK⟩:=hrel;obtain ⟨w3,rfl⟩:∃ y:World,y=wr:=⟨_,rfl⟩;by_cases hq0:0<q
   ·have hq1:(0:Int)<(q:Int):=by omega
    have HNY:=Za (Qan C 256 w3 HC.out (by omega) (by omega));go_wp2_with fail;((with_reducible refine HNY.out.mono ?_));rintro e w4 ⟨k4,rfl,hk4,hc4,hkk4⟩;have HR4:=Za (HR.out.keep HC.out hkk4);have HV4:=Za (HV.out.keep HC.out hkk4);have HK4:=Za (HK.out.trans hkk4);have HC4:=Za hc4;have HIN:=Za (Qbb k4 w4 (by omega));have hk4':(k4:Int)<256:=hk4;clear hc4 hkk4 HR HV HK HC HNY;go_wp2_with fail;((with_reducible refine HIN.out.mono ?_));rintro e w5 ⟨v5,rfl,hv5,hb5⟩;obtain ⟨a5,n5,c5,rfl⟩:=hv5.form;have HR5:=Za (HR4.out.below hb5);have HV5:=Za (HV4.out.below hb5);have HC5:=Za (HC4.out.keep hb5);have HK5:=Za (HK4.out.trans (Keep.of hb5));have HT5:=Za hv5;clear hv5 hb5 HR4 HV4 HC4 HK4;have hal:Below w5.heap.size w5 (w5.alloc (.cells #[.slice a5 n5 c5] 24)):=Zb.alloc Zc _;have HR6:=Za (HR5.out.below hal);have HV6:=Za ((HV5.out.below hal).snoc ((HT5.out.below hal).base (Nat.zero_le _)));have HC6:=Za (HC5.out.keep hal);have HK6:=Za (HK5.out.trans (Keep.of hal));have HNN:Hid ((w5.alloc (.cells #[.slice a5 n5 c5] 24)).heap[w5.heap.size]?=some (.cells #[.slice a5 n5 c5] 24 (0,0))):=Za (heap_alloc_new _ _);have hone:=HT5.out.one;clear HR5 HV5 HC5 HK5 hal;go_wp2_with (at_builtin;refine Qa2 rfl _ _ rfl w.heap.size v vs rfl HR6.out w5.heap.size (.slice a5 n5 c5) hone rfl HNN.out (by omega) HK6.out.size ?_;intro v7 w7 ho hg;have HO:=Za ho;have HG7:=Za hg;clear ho hg);have HV7:=Za (HV6.out.grownRow HR6.out HG7.out);have HC7:=Za (HC6.out.grown HG7.out (fun g h=>by have:=QaN HR6.out h;have:=HCW.out.lt;omega));have HK7:=Za (HK6.out.grown HG7.out (fun g h=>QaN HR6.out h));clear HR6 HV6 HC6 HK6 HNN HG7 hone HT5;go_wp2_with fail;go_roundw
    case rel=>first|exact ⟨vs++[.slice a5 n5 c5],q-1,by go_num,by rw [List.length_append,List.length_singleton];omega,HO,HV7,HC7,HK7⟩|exact ⟨_,vs++[.slice a5 n5 c5],q-1,rfl,by go_num,by rw [List.length_append,List.length_singleton];omega,HO,HV7,HC7,HK7⟩
    case measure=>simp [intOf];omega
   ·have hq1:¬ (0:Int)<(q:Int):=by omega
    have hqz:q=0:=by omega
    obtain ⟨a,cp,rfl⟩:=HR.out.form;have HNY:=Za (Qan C 3 w3 HC.out (by omega) (by omega));have HKF:=Za (HR.out);go_wp2_with fail;((with_reducible refine HNY.out.mono ?_));rintro e w4 ⟨k4,rfl,hk4,hc4,hkk4⟩;have HR4:=Za (HR.out.keep HC.out hkk4);have HV4:=Za (HV.out.keep HC.out hkk4);have HK4:=Za (HK.out.trans hkk4);have HC4:=Za hc4;have HIN:=Za (Qbb ((vs.length:Int)+k4) w4 (by omega));have hk4':(k4:Int)<3:=hk4;clear hc4 hkk4 HR HV HK HC HNY HKF;go_wp2_with fail;((with_reducible refine HIN.out.mono ?_));rintro e w5 ⟨v5,rfl,hv5,hb5⟩;obtain ⟨a5,n5,c5,rfl⟩:=hv5.form;have HKN:=Za (Qal 4 _ vs (List.replicate vs.length 1) w5 (fun h=>by unfold QaR at h;omega) (HR4.out.below hb5).sl (by simp) (HV4.out.below hb5).each (by omega) (by rw [Qbj];omega));rw [Qbj] at HKN;have HC5:=Za (HC4.out.keep hb5);have HK5:=Za (HK4.out.trans (Keep.of hb5));have HT5:=Za hv5;clear hv5 hb5 HR4 HV4 HC4 HK4 HIN;go_wp2_with fail;((with_reducible refine HKN.out.mono ?_));rintro e w6 ⟨v6,rfl,hv6,hb6⟩;obtain ⟨a6,n6,c6,rfl⟩:=hv6.form;have HT56:=Za (HT5.out.below hb6);have HC6:=Za (HC5.out.keep hb6);have HK6:=Za (HK5.out.trans (Keep.of hb6));have hal:Below w6.heap.size w6 (w6.alloc (.cells #[.slice a5 n5 c5,.slice a6 n6 c6] 24)):=Zb.alloc Zc _;have HT57:=Za ((HT56.out.below hal).base (B':=0) (Nat.zero_le _));have HT67:=Za ((hv6.below hal).base (B':=0) (Nat.zero_le _));have HC7:=Za (HC6.out.keep hal);have HK7:=Za (HK6.out.trans (Keep.of hal));have HKL:=Za (KSl.lit w6 [.slice a5 n5 c5,.slice a6 n6 c6] 2 rfl);have HN2:=Za (Qal 50 _ [.slice a5 n5 c5,.slice a6 n6 c6] [1,1+vs.length * 1] (w6.alloc (.cells #[.slice a5 n5 c5,.slice a6 n6 c6] 24)) (fun h=>by unfold QaR at h;omega) HKL.out rfl (fun i h1 h2=>by
     match i,h1 with
     | 0,_=>exact HT57.out
     | 1,_=>exact HT67.out) (by simp) (by simp only [List.sum_cons,List.sum_nil];omega))
    clear hv6 hb6 HC5 HK5 HT5 HT56 HC6 HK6 hal HKL HKN;go_wp2_with fail;((with_reducible refine HN2.out.mono ?_));rintro e w8 ⟨v8,rfl,hv8,hb8⟩;have HV8:=Za ((hv8.base (B':=w.heap.size) HK7.out.size).more (M:=Qfk d) (by simp only [List.sum_cons,List.sum_nil];have:=HPOS.out;omega));have HC8:=Za (HC7.out.keep hb8);have HK8:=Za (HK7.out.trans (Keep.of hb8));clear hv8 hb8;go_wp2_with fail;go_ret;exact ⟨_,rfl,HV8.out,HC8.out,HK8.out⟩
 have t2:((k:Int)==2)=false:=by rw [beq_eq_false_iff_ne];omega
 have HNU:=Za (Qij C w1 HC1.out);by_cases c3:k=3
 ·subst c3;cases d with
  | zero =>
    go_wp2_with fail;((with_reducible refine HNU.out.mono ?_));rintro e w2 ⟨nu,rfl,hnu,hc2,hk2⟩;have HC2:=Za hc2;have HK2:=Za (HK1.out.trans hk2);have HIN:=Za (Qbb nu w2 hnu);clear hc2 hk2 HNU;go_wp2_with fail;((with_reducible refine HIN.out.mono ?_));rintro e w3 ⟨v3,rfl,hv3,hb3⟩;have HV3:=Za ((hv3.base (B':=w.heap.size) HK2.out.size).more (M:=Qfk 0) (by have:=HPOS.out;omega));have HC3:=Za (HC2.out.keep hb3);have HK3:=Za (HK2.out.trans (Keep.of hb3));clear hv3 hb3;go_wp2_with fail;go_ret;exact ⟨_,rfl,HV3.out,HC3.out,HK3.out⟩
  | succ d' =>
    have hd0:(0:Int)<((d'+1:Nat):Int):=by omega
    obtain ⟨K,hKe⟩:∃ K,Qfk d'=K:=⟨_,rfl⟩;have hK6:6<=K:=by rw [<- hKe];exact QhJ d'
    have hK3:K<=3000:=by rw [<- hKe];exact Qsh d' (by omega)
    have HDK:Hid (Qfk (d'+1)=3+3 * K):=Za (by rw [<- hKe]<;>rfl);have HDA:=Za (IH.out d' rfl);have HKE:=Za hKe;unfold QhK at HDA;rw [hKe] at HDA;clear hKe HNU;have HNX:=Za (Qan C 4 w1 HC1.out (by omega) (by omega));go_wp2_with fail;((with_reducible refine HNX.out.mono ?_));rintro e w2 ⟨k2,rfl,hk2,hc3,hk3⟩;have HK3:=Za (HK1.out.trans hk3);have HC3:=Za hc3;clear hc3 hk3 HNX;go_wp2_with fail;go_loopw [7,8] (fun x i wr=>∃ (v:Value) (vs:List Value) (q:Nat),v=x/\i = .int .i64 q/\q+vs.length<=3/\Hid (KRow wr w.heap.size v vs)/\Hid (NVs wr K vs)/\Hid (CSt wr C)/\Hid (Keep C w wr)) (fun _ i _=>(intOf i).toNat)
    case atStart=>exact ⟨_,[],k2,rfl,rfl,by simp;omega,Za (KRow.nil _ _),Za (NVs.nil _ _),HC3,HK3⟩
    case round =>
     clear HC3 HK3;obtain ⟨v,vs,q,rfl,rfl,hq,HR,HV,HC,HK⟩:=hrel;obtain ⟨w3,rfl⟩:∃ y:World,y=wr:=⟨_,rfl⟩;by_cases hq0:0<q
     ·have hq1:(0:Int)<(q:Int):=by omega
      have HNY:=Za (Qan C 3 w3 HC.out (by omega) (by omega));go_wp2_with fail;((with_reducible refine HNY.out.mono ?_));rintro e w4 ⟨k4,rfl,hk4,hc4,hkk4⟩;have HR4:=Za (HR.out.keep HC.out hkk4);have HV4:=Za (HV.out.keep HC.out hkk4);have HK4:=Za (HK.out.trans hkk4);have HC4:=Za hc4;clear hc4 hkk4 HR HV HK HC HNY;cases h2:(k4:Int)==2 with
      | true =>
        have HNM:=Za (QeV C w4 HC4.out);go_wp2_with fail;((with_reducible refine HNM.out.mono ?_));rintro e wn ⟨sn,rfl,hsn,hcn,hkn⟩;have HRn:=Za (HR4.out.keep HC4.out hkn);have HVn:=Za (HV4.out.keep HC4.out hkn);have HKn:=Za (HK4.out.trans hkn);have HCn:=Za hcn;have HNO:=Za (QaL sn wn (by omega));clear hcn hkn HR4 HV4 HK4 HC4 HNM;go_wp2_with fail;((with_reducible refine HNO.out.mono ?_));rintro e w5 ⟨v5,rfl,hv51,hb5⟩;have hv5:=hv51.more (M:=K) (by omega);clear hv51;have hk5:Keep C wn w5:=Keep.of hb5;have hc5:=HCn.out.keep hb5;obtain ⟨a5,n5,c5,rfl⟩:=hv5.form;have HR5:=Za (HRn.out.keep HCn.out hk5);have HV5:=Za (HVn.out.keep HCn.out hk5);have HC5:=Za hc5;have HK5:=Za (HKn.out.trans hk5);have HT5:=Za hv5;clear hv5 hc5 hk5 HRn HVn HCn HKn;have hal:Below w5.heap.size w5 (w5.alloc (.cells #[.slice a5 n5 c5] 24)):=Zb.alloc Zc _;have HR6:=Za (HR5.out.below hal);have HV6:=Za ((HV5.out.below hal).snoc ((HT5.out.below hal).base (Nat.zero_le _)));have HC6:=Za (HC5.out.keep hal);have HK6:=Za (HK5.out.trans (Keep.of hal));have HNN:Hid ((w5.alloc (.cells #[.slice a5 n5 c5] 24)).heap[w5.heap.size]?=some (.cells #[.slice a5 n5 c5] 24 (0,0))):=Za (heap_alloc_new _ _);have hone:=HT5.out.one;clear HR5 HV5 HC5 HK5 hal;go_wp2_with (at_builtin;refine Qa2 rfl _ _ rfl w.heap.size v vs rfl HR6.out w5.heap.size (.slice a5 n5 c5) hone rfl HNN.out (by omega) HK6.out.size ?_;intro v7 w7 ho hg;have HO:=Za ho;have HG7:=Za hg;clear ho hg);have HV7:=Za (HV6.out.grownRow HR6.out HG7.out);have HC7:=Za (HC6.out.grown HG7.out (fun g h=>by have:=QaN HR6.out h;have:=HCW.out.lt;omega));have HK7:=Za (HK6.out.grown HG7.out (fun g h=>QaN HR6.out h));clear HR6 HV6 HC6 HK6 HNN HG7 hone HT5;go_wp2_with fail;go_roundw
        case rel=>first|exact ⟨vs++[.slice a5 n5 c5],q-1,by go_num,by rw [List.length_append,List.length_singleton];omega,HO,HV7,HC7,HK7⟩|exact ⟨_,vs++[.slice a5 n5 c5],q-1,rfl,by go_num,by rw [List.length_append,List.length_singleton];omega,HO,HV7,HC7,HK7⟩
        case measure=>simp [intOf];omega
      | false =>
        have HDD:=Za (HDA.out w4 HC4.out);unfold GPost at HDD;have hdd:((d'+1:Nat):Int)-1=(d':Int):=by omega
        go_wp2_with fail;((with_reducible refine HDD.out.mono ?_));rintro e w5 ⟨v5,rfl,hv5,hc5,hk5⟩;obtain ⟨a5,n5,c5,rfl⟩:=hv5.form;have HR5:=Za (HR4.out.keep HC4.out hk5);have HV5:=Za (HV4.out.keep HC4.out hk5);have HC5:=Za hc5;have HK5:=Za (HK4.out.trans hk5);have HT5:=Za hv5;clear hv5 hc5 hk5 HR4 HV4 HC4 HK4;have hal:Below w5.heap.size w5 (w5.alloc (.cells #[.slice a5 n5 c5] 24)):=Zb.alloc Zc _;have HR6:=Za (HR5.out.below hal);have HV6:=Za ((HV5.out.below hal).snoc ((HT5.out.below hal).base (Nat.zero_le _)));have HC6:=Za (HC5.out.keep hal);have HK6:=Za (HK5.out.trans (Keep.of hal));have HNN:Hid ((w5.alloc (.cells #[.slice a5 n5 c5] 24)).heap[w5.heap.size]?=some (.cells #[.slice a5 n5 c5] 24 (0,0))):=Za (heap_alloc_new _ _);have hone:=HT5.out.one;clear HR5 HV5 HC5 HK5 hal;go_wp2_with (at_builtin;refine Qa2 rfl _ _ rfl w.heap.size v vs rfl HR6.out w5.heap.size (.slice a5 n5 c5) hone rfl HNN.out (by omega) HK6.out.size ?_;intro v7 w7 ho hg;have HO:=Za ho;have HG7:=Za hg;clear ho hg);have HV7:=Za (HV6.out.grownRow HR6.out HG7.out);have HC7:=Za (HC6.out.grown HG7.out (fun g h=>by have:=QaN HR6.out h;have:=HCW.out.lt;omega));have HK7:=Za (HK6.out.grown HG7.out (fun g h=>QaN HR6.out h));clear HR6 HV6 HC6 HK6 HNN HG7 hone HT5;go_wp2_with fail;go_roundw
        case rel=>first|exact ⟨vs++[.slice a5 n5 c5],q-1,by go_num,by rw [List.length_append,List.length_singleton];omega,HO,HV7,HC7,HK7⟩|exact ⟨_,vs++[.slice a5 n5 c5],q-1,rfl,by go_num,by rw [List.length_append,List.length_singleton];omega,HO,HV7,HC7,HK7⟩
        case measure=>simp [intOf];omega
     ·have hq1:¬ (0:Int)<(q:Int):=by omega
      have hqz:q=0:=by omega
      have HMUL:Hid (vs.length * K<=3 * K):=Za (Nat.mul_le_mul_right K (by omega));obtain ⟨a,cp,rfl⟩:=HR.out.form;have HNY:=Za (Qan C 3 w3 HC.out (by omega) (by omega));have HKF:=Za (HR.out);go_wp2_with fail;((with_reducible refine HNY.out.mono ?_));rintro e w4 ⟨k4,rfl,hk4,hc4,hkk4⟩;have HR4:=Za (HR.out.keep HC.out hkk4);have HV4:=Za (HV.out.keep HC.out hkk4);have HK4:=Za (HK.out.trans hkk4);have HC4:=Za hc4;have HIN:=Za (Qbb ((vs.length:Int)+k4) w4 (by omega));have hk4':(k4:Int)<3:=hk4;clear hc4 hkk4 HR HV HK HC HNY HKF;go_wp2_with fail;((with_reducible refine HIN.out.mono ?_));rintro e w5 ⟨v5,rfl,hv5,hb5⟩;obtain ⟨a5,n5,c5,rfl⟩:=hv5.form;have HKN:=Za (Qal 4 _ vs (List.replicate vs.length K) w5 (fun h=>by unfold QaR at h;omega) (HR4.out.below hb5).sl (by simp) (HV4.out.below hb5).each (by omega) (by rw [Qbj];(have:=HMUL.out;omega)));rw [Qbj] at HKN;have HC5:=Za (HC4.out.keep hb5);have HK5:=Za (HK4.out.trans (Keep.of hb5));have HT5:=Za hv5;clear hv5 hb5 HR4 HV4 HC4 HK4 HIN;go_wp2_with fail;((with_reducible refine HKN.out.mono ?_));rintro e w6 ⟨v6,rfl,hv6,hb6⟩;obtain ⟨a6,n6,c6,rfl⟩:=hv6.form;have HT56:=Za (HT5.out.below hb6);have HC6:=Za (HC5.out.keep hb6);have HK6:=Za (HK5.out.trans (Keep.of hb6));have hal:Below w6.heap.size w6 (w6.alloc (.cells #[.slice a5 n5 c5,.slice a6 n6 c6] 24)):=Zb.alloc Zc _;have HT57:=Za ((HT56.out.below hal).base (B':=0) (Nat.zero_le _));have HT67:=Za ((hv6.below hal).base (B':=0) (Nat.zero_le _));have HC7:=Za (HC6.out.keep hal);have HK7:=Za (HK6.out.trans (Keep.of hal));have HKL:=Za (KSl.lit w6 [.slice a5 n5 c5,.slice a6 n6 c6] 2 rfl);have HN2:=Za (Qal 51 _ [.slice a5 n5 c5,.slice a6 n6 c6] [1,1+vs.length * K] (w6.alloc (.cells #[.slice a5 n5 c5,.slice a6 n6 c6] 24)) (fun h=>by unfold QaR at h;omega) HKL.out rfl (fun i h1 h2=>by
       match i,h1 with
       | 0,_=>exact HT57.out
       | 1,_=>exact HT67.out) (by simp) (by simp only [List.sum_cons,List.sum_nil];(have:=HMUL.out;omega)))
      clear hv6 hb6 HC5 HK5 HT5 HT56 HC6 HK6 hal HKL HKN;go_wp2_with fail;((with_reducible refine HN2.out.mono ?_));rintro e w8 ⟨v8,rfl,hv8,hb8⟩;have HV8:=Za ((hv8.base (B':=w.heap.size) HK7.out.size).more (M:=Qfk (d'+1)) (by simp only [List.sum_cons,List.sum_nil];have:=HMUL.out;have:=HDK.out;omega));have HC8:=Za (HC7.out.keep hb8);have HK8:=Za (HK7.out.trans (Keep.of hb8));clear hv8 hb8;go_wp2_with fail;go_ret;exact ⟨_,rfl,HV8.out,HC8.out,HK8.out⟩
 have t3:((k:Int)==3)=false:=by rw [beq_eq_false_iff_ne];omega
 go_wp2_with fail;((with_reducible refine HNU.out.mono ?_));rintro e w2 ⟨nu,rfl,hnu,hc2,hk2⟩;have HC2:=Za hc2;have HK2:=Za (HK1.out.trans hk2);have HIN:=Za (Qbb nu w2 hnu);clear hc2 hk2 HNU;go_wp2_with fail;((with_reducible refine HIN.out.mono ?_));rintro e w3 ⟨v3,rfl,hv3,hb3⟩;have HV3:=Za ((hv3.base (B':=w.heap.size) HK2.out.size).more (M:=Qfk d) (by have:=HPOS.out;omega));have HC3:=Za (HC2.out.keep hb3);have HK3:=Za (HK2.out.trans (Keep.of hb3));clear hv3 hb3;go_wp2_with fail;go_ret;exact ⟨_,rfl,HV3.out,HC3.out,HK3.out⟩
theorem Qff (C:Nat):∀ d,d<=5->QhK C d
 | 0,h=>Qk3 C 0 h (fun d' e=>by omega)
 | d+1,h=>Qk3 C (d+1) h (fun d' e=>by
   have e2:d=d':=by omega
   subst e2;exact Qff C d (by omega))
end
end Go.Proofs.YtoohondkpddmcaaGreatDoor
