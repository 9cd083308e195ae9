/- Pb Fg -/
import Derived.Test.YtnicnfchkdmieaaGreatDoorXaz
set_option linter.unusedVariables false
set_option linter.unusedSimpArgs false
namespace Go.Proofs.YtnicnfchkdmieaaGreatDoor
section
open Go.RowKit
attribute [local go_sem] ByteArray.mk_append_mk bs_get bs_cut bs_end
def NdG (t : Nd) : Prop:=t.str.length ≤ 6 ∧ 0 ≤ t.num ∧ t.num ≤ 18446744073709551615
def NestP (op : Int) : Prop:=10 ≤ op ∧ op ≤ 12 ∨ op = 14 ∨ op = 16 ∨ op = 17 ∨ op = 31 ∨ op = 32
inductive Tre : Nat → List Nd → Prop
 | flat (h : Nat) (n : Nd) (ks : List (List Nd)) (hp : n.pos = ks.length) (hn : ¬ NestP n.kind) (hk : ∀ k ∈ ks,Tre h k) : Tre h (n :: ks.flatten)
 | nest (h : Nat) (n : Nd) (ks : List (List Nd)) (hp : n.pos = ks.length) (hk : ∀ k ∈ ks,Tre h k) : Tre (h + 1) (n :: ks.flatten)
theorem Tre.mono {h : Nat} {l : List Nd} (t : Tre h l) : ∀ {h' : Nat},h ≤ h' → Tre h' l:=by
 induction t with
 | flat h n ks hp hn hk ih => intro h' hh; exact .flat h' n ks hp hn (fun k hkk => ih k hkk hh)
 | nest h n ks hp hk ih =>
   intro h' hh
   obtain ⟨g,rfl⟩ : ∃ g,h' = g + 1:=⟨h' - 1,by omega⟩
   exact .nest g n ks hp (fun k hkk => ih k hkk (by omega))
def For6 (l : List Nd) : Prop:=∃ ts : List (List Nd),l = ts.flatten ∧ ∀ t ∈ ts,Tre 6 t
theorem For6.nil : For6 []:=⟨[],rfl,fun t h => by cases h⟩
theorem For6.snoc {l l2 : List Nd} (h : For6 l) (h2 : Tre 6 l2) : For6 (l ++ l2):=by
 obtain ⟨ts,rfl,h1⟩:=h
 refine ⟨ts ++ [l2],by simp,fun t ht => ?_⟩
 rcases List.mem_append.1 ht with h | h
 ·exact h1 t h
 ·simp only [List.mem_cons,List.not_mem_nil,or_false] at h; subst h; exact h2
def dpN (N : Nat) : Nat:=if N < 16 then 0 else if N < 140 then 1 else if N < 1000 then 2 else if N < 6055 then 3 else if N < 18173 then 4 else if N < 54530 then 5 else 6
theorem dpN_mono {N M : Nat} (h : N ≤ M) : dpN N ≤ dpN M:=by
 unfold dpN
 repeat' split
 all_goals omega
theorem dpN_le (N : Nat) : dpN N ≤ 6:=by
 unfold dpN
 repeat' split
 all_goals omega
theorem le_sum : ∀ (Ns : List Nat) (N : Nat),N ∈ Ns → N ≤ Ns.sum
 | [],N,h => by cases h
 | a :: r,N,h => by
   rw [List.sum_cons]
   rcases List.mem_cons.1 h with rfl | h
   ·omega
   ·have:=le_sum r N h; omega
def NV (w : World) (B N : Nat) (v : Value) : Prop:=∃ ns : List Nd,NodesI w B v ns ∧ (∀ t ∈ ns,NdG t) ∧ ns.length ≤ N ∧ ns ≠ [] ∧ Tre (dpN N) ns
theorem NV.below {w w' : World} {B N : Nat} {v : Value} (h : NV w B N v) (hb : Below w.heap.size w w') : NV w' B N v:=by
 obtain ⟨ns,h1,h2,h3⟩:=h
 exact ⟨ns,h1.below hb,h2,h3⟩
theorem NV.base {w : World} {B B' N : Nat} {v : Value} (h : NV w B N v) (hB : B' ≤ B) : NV w B' N v:=by
 obtain ⟨ns,h1,h2,h3⟩:=h
 exact ⟨ns,own_base h1 hB,h2,h3⟩
theorem NV.more {w : World} {B N M : Nat} {v : Value} (h : NV w B N v) (hN : N ≤ M) : NV w B M v:=by
 obtain ⟨ns,h1,h2,h3⟩:=h
 exact ⟨ns,h1,h2,by have:=h3.1; omega,h3.2.1,h3.2.2.mono (dpN_mono hN)⟩
theorem own_ch {w : World} {B : Nat} {v : Value} {l : List Nd} (h : NodesI w B v l) {C : Nat} {tv : Value} {i : Int} (hb : w.heap[C]? = some (chObj tv i)) : v.ownBlock ≠ some C:=by
 intro e
 obtain ⟨cur,hc⟩:=own_type h e
 rw [hb] at hc
 injection hc with hc
 injection hc with _ h2 _
 exact absurd h2 (by decide)
theorem NV.keep {w w' : World} {B N C : Nat} {v : Value} (h : NV w B N v) (hC : CSt w C) (hk : Keep C w w') : NV w' B N v:=by
 obtain ⟨ns,h1,h2,h3⟩:=h
 obtain ⟨a,cap,i,l,hc,_⟩:=hC
 exact ⟨ns,own_grown h1 hk (fun g hg e => own_ch h1 hc (by rw [hg,e])),h2,h3⟩
def KSl (w : World) (kv : Value) (vs : List Value) : Prop :=
 ∃ (a : Option Addr) (cap : Nat),kv = .slice a vs.length cap ∧ (vs ≠ [] → ∃ b off,a = some ⟨b,off,none⟩ ∧ ∀ i (h : i < vs.length),w.cell? ⟨b,off + i,none⟩ = some vs[i])
theorem KSl.below {w w' : World} {kv : Value} {vs : List Value} (h : KSl w kv vs) (hb : Below w.heap.size w w') : KSl w' kv vs:=by
 obtain ⟨a,cap,hv,hc⟩:=h
 refine ⟨a,cap,hv,fun hn => ?_⟩
 obtain ⟨b,off,ha,hk⟩:=hc hn
 exact ⟨b,off,ha,fun i hi => (hb.cell (p:=⟨b,off + i,none⟩) (World.block_lt_of_cell? w _ (hk i hi))).trans (hk i hi)⟩
theorem tcI_one : ∀ (l : List Nd) (u : Value),u ∈ tcI l → u.oneCell' = true
 | [],u,h => by cases h
 | t :: r,u,h => by
   simp only [tcI,List.mem_cons] at h
   rcases h with rfl | rfl | rfl | rfl | h
   ·rfl
   ·rfl
   ·rfl
   ·rfl
   ·exact tcI_one r u h
theorem wpList_append_nodes {w : World} {ops : Array Oper} {rest : List Oper} {o : Oper} {a : Act} {Q : Exit → Act → World → Prop} (hgd : o.guard = none) (s x : Operand)
  (ho : o.op = .call { callee:=.builtin .append,args:=#[s,x],argTypes:=#[33,33] })
  (B : Nat) (v : Value) (l1 : List Nd) (hs : a.eval s = v) (hown : NodesI w B v l1)
  (B2 : Nat) (y : Value) (l2 : List Nd) (hx : a.eval x = y) (hy : NodesI w B2 y l2) (hlen : l1.length + l2.length ≤ 1000000) (hB : B ≤ w.heap.size)
  (h : ∀ v' w',NodesI w' B v' (l1 ++ l2) → w.grownBy w' v.ownBlock → wpList Tryz.prog ops Q rest (a.put o.dst v') w') : wpList Tryz.prog ops Q (o :: rest) a w:=by
 obtain ⟨i0,hi,hz0,hz1,hz2⟩:=info_parts infoNode
 rcases hy.2 with ⟨rfl,h0⟩ | ⟨g,cap,cur,rfl,hg,hb,hn,hm,hsz,ht⟩
 ·have hn : l2 = []:=List.eq_nil_of_length_eq_zero h0
  subst hn
  refine wpList_append_own_none hgd s x _ ho B 42 i0 4 Tryz.underlying33 hi v l1.length _ hs hown hx ?_
  exact h v w (by simpa using hown) (World.grownBy.refl _ _)
 ·refine wpList_append_own _ hgd s x _ ho B 42 i0 _ 4 40 Tryz.underlying33 hi hz0 hz1 hz2 rfl (by decide) v l1.length _ hs hown ⟨g,0,none⟩ l2.length cap (tcI l2) hx (by rw [tcI_len]) ?_ ?_ (by unfold maxLen; omega) (by omega) hB ?_
  ·intro j z hj
   have e : (⟨g,0,none⟩ : Addr).add j = ⟨g,j,none⟩:=by by_cases h : j = 0 <;> simp [Addr.add,h]
   have hjl : j < l2.length * 4:=by
    rcases Nat.lt_or_ge j (l2.length * 4) with h | h
    ·exact h
    ·rw [List.getElem?_eq_none (by rw [tcI_len]; omega)] at hj; cases hj
   rw [e,World.ownsRow.cellAt hy j hjl]
   exact hj
  ·intro z hz
   exact tcI_one l2 z hz
  ·intro v' w' h1 h2 _
   refine h v' w' ?_ h2
   unfold NodesI
   rw [List.length_append,tcI_app]
   exact h1
theorem nest_sum {Ns : List Nat} {B K : Nat} (hK : K ≤ 1 + Ns.sum) (hB : dpN B + 1 ≤ dpN K) (h : ∀ N ∈ Ns,N ≤ B) : ∃ g,dpN (1 + Ns.sum) = g + 1 ∧ ∀ N ∈ Ns,dpN N ≤ g:=by
 have hm:=dpN_mono hK
 refine ⟨dpN (1 + Ns.sum) - 1,by omega,fun N hN => ?_⟩
 have:=dpN_mono (h N hN)
 omega
def KT (Ns : List Nat) (n : Nd) (k : Nat) (l : List Nd) : Prop:=∃ ks : List (List Nd),l = n :: ks.flatten ∧ ks.length = k ∧ ∀ j (h : j < ks.length),∃ h2 : j < Ns.length,Tre (dpN Ns[j]) ks[j]
theorem KT.ne {Ns : List Nat} {n : Nd} {k : Nat} {l : List Nd} (h : KT Ns n k l) : l ≠ []:=by
 obtain ⟨ks,rfl,_⟩:=h; simp
theorem KT.snoc {Ns : List Nat} {n : Nd} {k : Nat} {l l2 : List Nd} (h : KT Ns n k l) (hk : k < Ns.length) (ht2 : Tre (dpN Ns[k]) l2) : KT Ns n (k + 1) (l ++ l2):=by
 obtain ⟨ks,rfl,hl,hj⟩:=h
 refine ⟨ks ++ [l2],by simp,by simp [hl],fun j hjl => ?_⟩
 by_cases hjk : j < ks.length
 ·rw [List.getElem_append_left hjk]; exact hj j hjk
 ·have hjk2 : j = k:=by rw [List.length_append,List.length_singleton] at hjl; omega
  subst hjk2
  refine ⟨hk,?_⟩
  rw [List.getElem_append_right (by omega)]
  simp only [hl,Nat.sub_self,List.getElem_singleton]
  exact ht2
theorem KT.tre {Ns : List Nat} {op num : Int} {s : List UInt8} {k : Nat} {l : List Nd} (h : KT Ns ⟨op,num,s,k⟩ k l) (hk : Ns.length = k) (hnp : NestP op → ∃ g,dpN (1 + Ns.sum) = g + 1 ∧ ∀ N ∈ Ns,dpN N ≤ g) : Tre (dpN (1 + Ns.sum)) l:=by
 obtain ⟨ks,rfl,hl,hj⟩:=h
 have key : ∀ x ∈ ks,∃ N ∈ Ns,Tre (dpN N) x:=by
  intro x hx
  obtain ⟨j,hjl,rfl⟩:=List.mem_iff_getElem.1 hx
  obtain ⟨h2,h3⟩:=hj j hjl
  exact ⟨_,List.getElem_mem h2,h3⟩
 by_cases hn : NestP op
 ·obtain ⟨g,hg,hall⟩:=hnp hn
  rw [hg]
  refine .nest g _ ks (by simp [hl]) (fun x hx => ?_)
  obtain ⟨M,hM,hx2⟩:=key x hx
  exact hx2.mono (hall M hM)
 ·refine .flat _ _ ks (by simp [hl]) hn (fun x hx => ?_)
  obtain ⟨M,hM,hx2⟩:=key x hx
  exact hx2.mono (dpN_mono (by have:=le_sum Ns M hM; omega))
theorem sum_take : ∀ (l : List Nat) (k : Nat) (h : k < l.length),(l.take (k + 1)).sum = (l.take k).sum + l[k]
 | a :: r,0,h => by simp
 | a :: r,k + 1,h => by
   have:=sum_take r k (by simpa using h)
   simp only [List.take_succ_cons,List.sum_cons,List.getElem_cons_succ] at this ⊢
   omega
theorem sum_take_le : ∀ (l : List Nat) (k : Nat),(l.take k).sum ≤ l.sum
 | [],k => by simp
 | a :: r,0 => by simp
 | a :: r,k + 1 => by
   have:=sum_take_le r k
   simp only [List.take_succ_cons,List.sum_cons]
   omega
set_option maxRecDepth 100000 in
set_option maxHeartbeats 2000000 in
theorem gnode_any (op num : Int) (s : List UInt8) (kv : Value) (vs : List Value) (Ns : List Nat) (w : World) (hs : s.length ≤ 6) (hn0 : 0 ≤ num ∧ num ≤ 18446744073709551615) (hnp : NestP op → ∃ g,dpN (1 + Ns.sum) = g + 1 ∧ ∀ N ∈ Ns,dpN N ≤ g) (hk : KSl w kv vs) (hNl : Ns.length = vs.length) (hv : ∀ i (h : i < vs.length) (h2 : i < Ns.length),NV w 0 Ns[i] vs[i]) (hm : vs.length ≤ 10000) (h1 : 1 + Ns.sum ≤ 900000) :
  Calls Tryz.prog 112 #[.int .i64 op,.int .u64 num,.string ⟨s.toArray⟩,kv] w fun e w' => ∃ v,e = .returned v ∧ NV w' w.heap.size (1 + Ns.sum) v ∧ Below w.heap.size w w':=by
 have HKS:=Lib.hid hk
 have HVS:=Lib.hid hv
 obtain ⟨a,cap,rfl,hc⟩:=hk
 have HC:=Lib.hid hc
 obtain ⟨P,hP⟩ : ∃ P,w.heap.size = P:=⟨_,rfl⟩
 have HPE:=Lib.hid hP
 have HR0 : Hid (NodesI (w.alloc (nObj op num s vs.length)) P (.slice (some ⟨P,0,none⟩) 1 1) [⟨op,num,s,vs.length⟩]):=Lib.hid (by rw [← hP]; exact World.ownsRow_lit w (tcI [⟨op,num,s,vs.length⟩]).toArray 1 (Nat.le_refl _) (by unfold maxLen; omega) rfl)
 have HB0 : Hid (Below P w (w.alloc (nObj op num s vs.length))):=Lib.hid ((Below.refl _ _).alloc (by omega) _)
 obtain ⟨M,hM⟩ : ∃ M,vs.length = M:=⟨_,rfl⟩
 have HM:=Lib.hid hM
 have HNL:=Lib.hid hNl
 have HNP:=Lib.hid hnp
 have HKT0 : Hid (KT Ns ⟨op,num,s,vs.length⟩ 0 [⟨op,num,s,vs.length⟩]):=Lib.hid ⟨[],rfl,rfl,fun j h => (by cases h)⟩
 rw [hM] at hm HR0 HB0 HKS HKT0
 rw [hP,hM]
 clear hv hc hNl hnp
 go_enter Tryz.func112,Tryz.ntmps112
 go_upto_region 2 with fail
 (try simp only [hP])
 generalize w.alloc (nObj op num s M) = W0 at HR0 HB0 ⊢
 clear hP hM
 go_wp2_with fail
 go_loopw [9,10] (fun x i wr => ∃ (v : Value) (k : Nat) (ns : List Nd),v = x ∧ i = .int .i64 k ∧ k ≤ M ∧ ns.length ≤ 1 + (Ns.take k).sum ∧ Hid (KT Ns ⟨op,num,s,M⟩ k ns) ∧ Hid (NodesI wr P v ns) ∧ Hid (∀ t ∈ ns,NdG t) ∧ Hid (Below P w wr)) (fun _ i _ => M - (intOf i).toNat)
 case atStart => exact ⟨_,0,_,rfl,rfl,by omega,by simp,HKT0,HR0,Lib.hid (by intro t ht; simp only [List.mem_cons,List.not_mem_nil,or_false] at ht; subst ht; exact ⟨hs,hn0⟩),HB0⟩
 case round =>
  clear HR0 HB0 HKT0
  obtain ⟨v,k,ns,rfl,rfl,hkM,hnl,HKT,HR,HG,HB⟩:=hrel
  obtain ⟨w3,rfl⟩ : ∃ y : World,y = wr:=⟨_,rfl⟩
  have hsz : P ≤ w3.heap.size:=by have:=HB.out.size; have:=HPE.out; omega
  by_cases hlt : k < M
  ·have hlt' : (k : Int) < (M : Int):=by omega
   have hkl : k < vs.length:=by rw [HM.out]; exact hlt
   obtain ⟨b,off,rfl,hcell⟩:=HC.out (by rintro rfl; simp at hkl)
   have c0:=hcell k hkl
   obtain ⟨y,hy⟩ : ∃ y,vs[k] = y:=⟨_,rfl⟩
   rw [hy] at c0
   have hbw : b < w.heap.size:=World.block_lt_of_cell? w _ c0
   have d0 : w3.cell? ⟨b,off + k,none⟩ = some y:=(HB.out.cell (p:=⟨b,off + k,none⟩) (by rw [← HPE.out]; exact hbw)).trans c0
   have hkN : k < Ns.length:=by rw [HNL.out]; exact hkl
   have hvk:=HVS.out k hkl hkN
   rw [hy] at hvk
   obtain ⟨l2,j1,j2,j3,_,j5⟩:=hvk
   have HKT2 : Hid (KT Ns ⟨op,num,s,M⟩ (k + 1) (ns ++ l2)):=Lib.hid (HKT.out.snoc hkN j5)
   have HY : Hid (NodesI w3 0 y l2):=Lib.hid (j1.below (HB.out.mono (by rw [HPE.out]; exact Nat.le_refl _)))
   have HG2:=Lib.hid j2
   have hkk:=sum_take Ns k hkN
   have hkb:=sum_take_le Ns k
   have hkb2:=sum_take_le Ns (k + 1)
   obtain ⟨sk,hsk⟩ : ∃ z,(Ns.take k).sum = z:=⟨_,rfl⟩
   obtain ⟨sk1,hsk1⟩ : ∃ z,(Ns.take (k + 1)).sum = z:=⟨_,rfl⟩
   obtain ⟨nk,hnk⟩ : ∃ z,Ns[k] = z:=⟨_,rfl⟩
   rw [hsk] at hnl hkk hkb
   rw [hsk1,hnk] at hkk
   rw [hnk] at j3
   clear hcell c0 hy j1 j2 j5 HKT
   go_wp2_with (at_builtin; refine wpList_append_nodes rfl _ _ rfl P v ns rfl HR.out 0 y l2 rfl HY.out (by omega) hsz ?_; intro v2 w2 ho hg; have HO:=Lib.hid ho; have HGR:=Lib.hid hg; clear ho hg)
   have HB5 : Hid (Below P w w2):=Lib.hid (HB.out.grown HGR.out hsz (fun j hj => own_row HR.out hj))
   have HG5 : Hid (∀ t ∈ ns ++ l2,NdG t):=Lib.hid (fun t ht => by
    rcases List.mem_append.1 ht with h | h
    ·exact HG.out t h
    ·exact HG2.out t h)
   have hln : (ns ++ l2).length ≤ 1 + (Ns.take (k + 1)).sum:=by rw [List.length_append,hsk1]; omega
   clear HGR d0 HY HR
   go_wp2_with fail
   go_roundw
   case rel => first | exact ⟨k + 1,ns ++ l2,by go_num,by omega,hln,HKT2,HO,HG5,HB5⟩ | exact ⟨_,k + 1,ns ++ l2,rfl,by go_num,by omega,hln,HKT2,HO,HG5,HB5⟩
   case measure => simp [intOf]; omega
  ·have hlt' : ¬ (k : Int) < (M : Int):=by omega
   have hkM2 : k = M:=by omega
   go_wp2_with fail
   go_ret
   subst hkM2
   exact ⟨_,rfl,⟨ns,HR.out,HG.out,by rw [List.take_of_length_le (by rw [HNL.out,HM.out]; omega)] at hnl; exact hnl,HKT.out.ne,HKT.out.tre (by rw [HNL.out,HM.out]) HNP.out⟩,HB.out⟩
theorem kNode_any (op : Int) (kv : Value) (vs : List Value) (Ns : List Nat) (w : World) (hnp : NestP op → ∃ g,dpN (1 + Ns.sum) = g + 1 ∧ ∀ N ∈ Ns,dpN N ≤ g) (hk : KSl w kv vs) (hNl : Ns.length = vs.length) (hv : ∀ i (h : i < vs.length) (h2 : i < Ns.length),NV w 0 Ns[i] vs[i]) (hm : vs.length ≤ 10000) (h1 : 1 + Ns.sum ≤ 900000) :
  Calls Tryz.prog 65 #[.int .i64 op,kv] w fun e w' => ∃ v,e = .returned v ∧ NV w' w.heap.size (1 + Ns.sum) v ∧ Below w.heap.size w w':=by
 have HN:=Lib.hid (gnode_any op 0 [] kv vs Ns w (by simp) (by omega) hnp hk hNl hv hm h1)
 generalize 1 + Ns.sum = NN at HN ⊢
 clear hk hv hm h1 hNl hnp
 go_enter Tryz.func65,Tryz.ntmps65
 go_wp2_with fail
 ((with_reducible refine HN.out.mono ?_))
 rintro e w1 ⟨v,rfl,hv,hb⟩
 have HV:=Lib.hid hv
 have HB:=Lib.hid hb
 clear hv hb
 go_wp2_with fail
 go_ret
 exact ⟨_,rfl,HV.out,HB.out⟩
theorem KSl.nil (w : World) : KSl w (.slice none 0 0) []:=⟨none,0,rfl,fun h => absurd rfl h⟩
theorem gInt_any (n : Int) (w : World) (hn : 0 ≤ n ∧ n ≤ 18446744073709551615) :
  Calls Tryz.prog 68 #[.int .u64 n] w fun e w' => ∃ v,e = .returned v ∧ NV w' w.heap.size 1 v ∧ Below w.heap.size w w':=by
 have HN:=Lib.hid (gnode_any 1 n [] _ [] [] w (by simp) hn (fun h => by unfold NestP at h; omega) (KSl.nil w) rfl (fun i h => by cases h) (by simp) (by simp))
 simp only [List.sum_nil,Nat.add_zero] at HN
 go_enter Tryz.func68,Tryz.ntmps68
 go_wp2_with fail
 ((with_reducible refine HN.out.mono ?_))
 rintro e w1 ⟨v,rfl,hv,hb⟩
 have HV:=Lib.hid hv
 have HB:=Lib.hid hb
 clear hv hb
 go_wp2_with fail
 go_ret
 exact ⟨_,rfl,HV.out,HB.out⟩
theorem nameOf_any (s : List UInt8) (w : World) (hs : s.length ≤ 6) :
  Calls Tryz.prog 66 #[.string ⟨s.toArray⟩] w fun e w' => ∃ v,e = .returned v ∧ NV w' w.heap.size 1 v ∧ Below w.heap.size w w':=by
 have HN:=Lib.hid (gnode_any 3 0 s _ [] [] w hs (by omega) (fun h => by unfold NestP at h; omega) (KSl.nil w) rfl (fun i h => by cases h) (by simp) (by simp))
 simp only [List.sum_nil,Nat.add_zero] at HN
 clear hs
 go_enter Tryz.func66,Tryz.ntmps66
 go_wp2_with fail
 ((with_reducible refine HN.out.mono ?_))
 rintro e w1 ⟨v,rfl,hv,hb⟩
 have HV:=Lib.hid hv
 have HB:=Lib.hid hb
 clear hv hb
 go_wp2_with fail
 go_ret
 exact ⟨_,rfl,HV.out,HB.out⟩
end
section
open Go.RowKit
theorem Tre.ne {h : Nat} {l : List Nd} (t : Tre h l) : l ≠ []:=by
 cases t <;> simp
def wtP : PT → Nat
 | [] => 0
 | x :: r => max 1 x.1.length + (fmtT x.2).length + wtP r
theorem wtP_nil : wtP [] = 0:=rfl
theorem wtP_cons (x : List UInt8 × TokI) (r : PT) : wtP (x :: r) = max 1 x.1.length + (fmtT x.2).length + wtP r:=rfl
theorem wtP_app : ∀ a b : PT,wtP (a ++ b) = wtP a + wtP b
 | [],b => by rw [List.nil_append,wtP_nil,Nat.zero_add]
 | x :: r,b => by rw [List.cons_append,wtP_cons,wtP_cons,wtP_app r b]; omega
theorem wtP_le : ∀ L : PT,(textP L).length ≤ wtP L
 | [] => Nat.le_refl _
 | x :: r => by
   have:=wtP_le r
   rw [textP_cons,wtP_cons,List.length_append,List.length_append]
   omega
theorem quoC4 (c : UInt8) : (quoC c).length ≤ 4:=by
 have : ∀ x : Fin 256,(quoC (UInt8.ofNat x.val)).length ≤ 4:=by decide +kernel
 have h:=this ⟨c.toNat,c.toNat_lt⟩
 rw [UInt8.ofNat_toNat] at h
 exact h
theorem acc_line {k : UInt8} {op : Int} (hb : blkB k = true) (hl : listB k = false) (ha : accB k op = true) : k = 68 ∨ k = 70 ∨ k = 83:=by
 refine Classical.byContradiction fun hn => ?_
 have h1 : k ≠ 68 ∧ k ≠ 70 ∧ k ≠ 83:=⟨fun h => hn (.inl h),fun h => hn (.inr (.inl h)),fun h => hn (.inr (.inr h))⟩
 have h2 : k ≠ 73 ∧ k ≠ 80:=by
  constructor <;> (rintro rfl; cases hl)
 have h3 : k ≠ 110 ∧ k ≠ 115 ∧ k ≠ 105 ∧ k ≠ 101 ∧ k ≠ 116 ∧ k ≠ 100:=by
  refine ⟨?_,?_,?_,?_,?_,?_⟩ <;> (rintro rfl; cases hb)
 unfold accB at ha
 simp only [h1,h2,h3,or_self,if_false] at ha
 cases ha
theorem acc_leaf {k : UInt8} {n : Nd} (hk : k = 68 ∨ k = 70 ∨ k = 83) (ha : accB k n.kind = true) : leafT n = none:=by
 have h : n.kind ≠ 1 ∧ n.kind ≠ 2 ∧ n.kind ≠ 3 ∧ n.kind ≠ 6 ∧ n.kind ≠ 7:=by
  refine ⟨?_,?_,?_,?_,?_⟩ <;> (intro e; rw [e] at ha; rcases hk with rfl | rfl | rfl <;> cases ha)
 unfold leafT
 rw [if_neg h.1,if_neg h.2.1,if_neg h.2.2.1,if_neg h.2.2.2.1,if_neg h.2.2.2.2]
def rsv (k : UInt8) : Nat:=if k = 68 ∨ k = 70 ∨ k = 83 then 13 else 3
theorem rsv_le (k : UInt8) : 3 ≤ rsv k ∧ rsv k ≤ 13:=by unfold rsv; split <;> omega
theorem nest_ops : ∀ op ∈ allOps,((formP op).2.any fun k => blkB k && !listB k) = true → (10 ≤ op ∧ op ≤ 12 ∨ op = 14 ∨ op = 16 ∨ op = 17 ∨ op = 31 ∨ op = 32):=by decide +kernel
theorem kids_nest {n : Nd} {k0 k : UInt8} {ks : List UInt8} (ha : accB k0 n.kind = true) (h : kidsK n = some ks) (hk : k ∈ ks) (hb : blkB k = true) (hl : listB k = false) : NestP n.kind:=by
 unfold kidsK at h
 split at h
 ·split at h
  ·injection h with h; subst h; rw [List.mem_replicate] at hk; rw [hk.2] at hb; cases hb
  ·cases h
 split at h
 ·split at h
  ·injection h with h; subst h; rw [List.mem_replicate] at hk; rw [hk.2] at hb; cases hb
  ·cases h
 split at h
 ·next h3 => unfold NestP; omega
 split at h
 ·injection h with h; subst h
  exact nest_ops _ (acc_ops ha) (List.any_eq_true.2 ⟨k,hk,by rw [hb,hl]; rfl⟩)
 ·cases h
theorem kids_len {n : Nd} {ks : List UInt8} (h : kidsK n = some ks) : (ks.length : Int) = n.pos:=by
 unfold kidsK at h
 split at h
 ·split at h
  ·injection h with h; subst h; rw [List.length_replicate]; omega
  ·cases h
 split at h
 ·split at h
  ·injection h with h; subst h; rw [List.length_replicate]; omega
  ·cases h
 split at h
 ·next h3 => injection h with h; subst h; rw [h3.2]; rfl
 split at h
 ·next h4 => injection h with h; subst h; exact h4
 ·cases h
theorem leaf_len {n : Nd} {t : TokI} (hl : leafT n = some t) (hg : NdG n) : (fmtT t).length ≤ 28:=by
 obtain ⟨h1,h2,h3⟩:=hg
 have hq : ∀ s : List UInt8,s.length ≤ 6 → (quoL s).length ≤ 28:=by
  intro s hs
  have : ∀ s : List UInt8,(s.flatMap quoC).length ≤ 4 * s.length:=by
   intro s
   induction s with
   | nil => simp
   | cons c s ih =>
     have hc:=quoC4 c
     rw [List.flatMap_cons,List.length_append,List.length_cons]
     omega
  have h:=this s
  unfold quoL quoK
  rw [List.take_length]
  simp only [List.length_append,List.length_cons,List.length_nil]
  omega
 unfold leafT at hl
 split at hl
 ·injection hl with hl; subst hl; have:=fmtI_len (v:=n.num.toNat) (by omega); show (fmtI n.num.toNat).length ≤ 28; omega
 split at hl
 ·injection hl with hl; subst hl; exact hq _ h1
 split at hl
 ·injection hl with hl; subst hl; show n.str.length ≤ 28; omega
 split at hl
 ·injection hl with hl; subst hl; show (6 : Nat) ≤ 28; omega
 split at hl
 ·injection hl with hl; subst hl; show (4 : Nat) ≤ 28; omega
 ·cases hl
theorem head_len {n : Nd} {k : UInt8} (ha : accB k n.kind = true) (hg : NdG n) : (fmtT (headT n)).length ≤ 15:=by
 unfold headT
 split
 ·show n.str.length ≤ 15; have:=hg.1; omega
 ·show (formP n.kind).1.length ≤ 15
  have hc : ∀ op ∈ allOps,(formP op).1.length ≤ 15:=by decide +kernel
  exact hc _ (acc_ops ha)
def LnT (p : List Nd) (d : Nat) : Prop :=
 (∀ (k : UInt8) (i j lv h : Nat) (s : List UInt8) (l r : List Nd),vAny p d false k i = some j → p.drop i = l ++ r → Tre h l → lv + h ≤ 6 → j = i + l.length ∧ wtP (fmtA p d false k i lv s).1 + rsv k ≤ max 1 s.length + 32 * l.length) ∧
 (∀ (k : UInt8) (i j lv h : Nat) (s : List UInt8) (l r : List Nd),blkB k = true → vAny p d true k i = some j → p.drop i = l ++ r → Tre h l → lv + h + (if listB k = true then 0 else 1) ≤ 6 → j = i + l.length ∧ wtP (fmtA p d true k i lv s).1 + 10 ≤ max 1 s.length + 32 * l.length)
theorem drop_on {p a r : List Nd} {i : Nat} (h : p.drop i = a ++ r) : p.drop (i + a.length) = r:=by
 rw [← List.drop_drop,h,List.drop_left]
theorem elems_lnT {p : List Nd} {d : Nat} (hs : LnT p d) (k : UInt8) (hb : blkB k = true) (lv h : Nat) (hlv : elV k lv + h ≤ 6) : ∀ (ts : List (List Nd)) (r : List Nd) (first : Bool) (i j : Nat),(∀ t ∈ ts,Tre h t) → p.drop i = ts.flatten ++ r → nextN (vAny p d false k) ts.length i = some j →
  j = i + ts.flatten.length ∧ wtP (elemsL (fmtA p d) k lv ts.length first i).1 ≤ 32 * ts.flatten.length
 | [],r,first,i,j,_,_,hx => by
   rw [List.length_nil,nextN] at hx; injection hx with hx; subst hx
   exact ⟨rfl,by rw [List.length_nil,elemsL]; simp [wtP_nil]⟩
 | t :: ts,r,first,i,j,ht,hd,hx => by
   rw [List.length_cons,nextN] at hx
   cases hq : vAny p d false k i with
   | none => rw [hq] at hx; cases hx
   | some q =>
     rw [hq] at hx
     rw [List.flatten_cons,List.append_assoc] at hd
     obtain ⟨hq1,hq2⟩:=hs.1 k i q (elV k lv) h (elS k lv first) t _ hq hd (ht t (by simp)) hlv
     have hd2:=drop_on hd
     rw [← hq1] at hd2
     obtain ⟨h1,h2⟩:=elems_lnT hs k hb lv h hlv ts r false q j (fun x hx => ht x (by simp [hx])) hd2 hx
     rw [List.length_cons,elemsL]
     simp only [fmt_next p d false k i q _ _ hq]
     rw [wtP_app,wtP_app,List.flatten_cons,List.length_append]
     have h3 : wtP (elC k first) + max 1 (elS k lv first).length ≤ rsv k:=by
      cases hlk : listB k with
      | true =>
        have:=(rsv_le k).1
        have h5 : wtP (elC k first) ≤ 2:=by
         unfold elC; cases first <;> simp [hlk,wtP_cons,wtP_nil,cmT,fmtT,punC]
        have h6 : (elS k lv first).length ≤ 1:=by
         unfold elS; cases first <;> simp [hlk]
        omega
      | false =>
        have hx' : ∃ n,accB k n = true:=by
         cases d with
         | zero => rw [vAny] at hq; cases hq
         | succ d => obtain ⟨n,_,_,ha,_⟩:=el_node hq; exact ⟨_,ha⟩
        obtain ⟨n,ha⟩:=hx'
        have hkk:=acc_line hb hlk ha
        have h5 : wtP (elC k first) = 0:=by unfold elC; simp [hlk,wtP_nil]
        have h6 : (elS k lv first).length = 1 + 2 * (lv + 1):=by unfold elS; rw [if_neg (by rw [hlk]; decide),List.length_cons,ind_len]; omega
        have h7 : elV k lv = lv + 1:=by unfold elV; rw [if_neg (by rw [hlk]; decide)]
        have h8 : rsv k = 13:=by unfold rsv; rw [if_pos hkk]
        omega
     refine ⟨by omega,?_⟩
     omega
theorem args_lnT {p : List Nd} {d : Nat} (hs : LnT p d) (lv h : Nat) (hlv : lv + h ≤ 6) : ∀ (ks : List UInt8) (ts : List (List Nd)) (r : List Nd) (first : Bool) (i j : Nat),ts.length = ks.length → (∀ t ∈ ts,Tre h t) → p.drop i = ts.flatten ++ r → nextK (fun k j => vAny p d (blkB k) k j) ks i = some j →
  ∃ ts2 : List (List Nd),ts2.length = (ks.dropWhile fun k => !blkB k).length ∧ (∀ t ∈ ts2,Tre h t) ∧ p.drop (argsE (fmtA p d) lv ks first i).2 = ts2.flatten ++ r ∧ (argsE (fmtA p d) lv ks first i).2 + ts2.flatten.length = i + ts.flatten.length ∧ wtP (argsE (fmtA p d) lv ks first i).1 + 32 * ts2.flatten.length ≤ 2 + 32 * ts.flatten.length
 | [],ts,r,first,i,j,hl,ht,hd,hx => by
   rw [argsE]
   exact ⟨ts,hl,ht,hd,rfl,by simp [wtP_cons,wtP_nil,pcT,fmtT,punC]⟩
 | k :: ks,ts,r,first,i,j,hl,ht,hd,hx => by
   rw [argsE]
   by_cases hb : blkB k = true
   ·rw [if_pos hb,List.dropWhile_cons,if_neg (by rw [hb]; decide)]
    exact ⟨ts,hl,ht,hd,rfl,by simp [wtP_cons,wtP_nil,pcT,fmtT,punC]⟩
   ·have hb' : blkB k = false:=by simpa using hb
    rw [if_neg hb,List.dropWhile_cons,if_pos (by rw [hb']; decide)]
    rw [nextK] at hx
    simp only [hb'] at hx
    cases ts with
    | nil => cases hl
    | cons t ts =>
      cases hq : vAny p d false k i with
      | none => rw [hq] at hx; cases hx
      | some q =>
        rw [hq] at hx
        rw [List.flatten_cons,List.append_assoc] at hd
        obtain ⟨hq1,hq2⟩:=hs.1 k i q lv h (if first = true then [] else [32]) t _ hq hd (ht t (by simp)) hlv
        have hd2:=drop_on hd
        rw [← hq1] at hd2
        simp only [fmt_next p d false k i q _ _ hq]
        obtain ⟨ts2,a1,a2,a3,a4,a5⟩:=args_lnT hs lv h hlv ks ts r false q j (by simpa using hl) (fun x hx => ht x (by simp [hx])) hd2 hx
        refine ⟨ts2,a1,a2,a3,?_,?_⟩
        ·rw [List.flatten_cons,List.length_append]; omega
        ·rw [wtP_app,wtP_app,List.flatten_cons,List.length_append]
         have:=(rsv_le k).1
         have h5 : wtP (if first = true then ([] : PT) else [([],cmT)]) + max 1 (if first = true then ([] : List UInt8) else [32]).length ≤ 3:=by cases first <;> simp [wtP_cons,wtP_nil,cmT,fmtT,punC]
         omega
theorem blks_lnT {p : List Nd} {d : Nat} (hs : LnT p d) (lv h : Nat) : ∀ (ks : List UInt8) (ts : List (List Nd)) (r : List Nd) (first : Bool) (i j : Nat),(∀ k ∈ ks,lv + h + (if listB k = true then 0 else 1) ≤ 6) → ts.length = ks.length → (∀ t ∈ ts,Tre h t) → p.drop i = ts.flatten ++ r → ks.all blkB = true → nextK (fun k j => vAny p d (blkB k) k j) ks i = some j →
  j = i + ts.flatten.length ∧ wtP (blksE (fmtA p d) lv ks first i).1 ≤ 32 * ts.flatten.length
 | [],ts,r,first,i,j,hlv,hl,ht,hd,ha,hx => by
   rw [nextK] at hx; injection hx with hx; subst hx
   have : ts = []:=List.eq_nil_of_length_eq_zero hl
   subst this
   exact ⟨rfl,by rw [blksE]; simp [wtP_nil]⟩
 | k :: ks,ts,r,first,i,j,hlv,hl,ht,hd,ha,hx => by
   rw [List.all_cons,Bool.and_eq_true] at ha
   rw [nextK] at hx
   simp only [ha.1] at hx
   cases ts with
   | nil => cases hl
   | cons t ts =>
     cases hq : vAny p d true k i with
     | none => rw [hq] at hx; cases hx
     | some q =>
       rw [hq] at hx
       rw [List.flatten_cons,List.append_assoc] at hd
       obtain ⟨hq1,hq2⟩:=hs.2 k i q lv h [32] t _ ha.1 hq hd (ht t (by simp)) (hlv k (by simp))
       have hd2:=drop_on hd
       rw [← hq1] at hd2
       rw [blksE]
       simp only [fmt_next p d true k i q _ _ hq]
       obtain ⟨h1,h2⟩:=blks_lnT hs lv h ks ts r false q j (fun x hx => hlv x (by simp [hx])) (by simpa using hl) (fun x hx => ht x (by simp [hx])) hd2 ha.2 hx
       have h5 : wtP (if first = true then ([] : PT) else [([32],elT)]) ≤ 5:=by split <;> simp [wtP_cons,wtP_nil,elT,fmtT]
       rw [wtP_app,wtP_app,List.flatten_cons,List.length_append]
       simp only [List.length_cons,List.length_nil] at hq2
       refine ⟨by omega,?_⟩
       omega
theorem tre_root {h : Nat} {n : Nd} {l : List Nd} (t : Tre h (n :: l)) : ∃ (ks : List (List Nd)) (g : Nat),l = ks.flatten ∧ n.pos = ks.length ∧ (∀ k ∈ ks,Tre g k) ∧ g ≤ h ∧ (NestP n.kind → g + 1 ≤ h):=by
 generalize hx : n :: l = x at t
 cases t with
 | flat _ m ks hp hn hk =>
   injection hx with h1 h2; subst h1 h2
   exact ⟨ks,h,rfl,hp,hk,Nat.le_refl _,fun h => absurd h hn⟩
 | nest g m ks hp hk =>
   injection hx with h1 h2; subst h1 h2
   exact ⟨ks,g,rfl,hp,hk,Nat.le_succ _,fun _ => Nat.le_refl _⟩
theorem drop_root {p l r : List Nd} {i : Nat} {n : Nd} (hn : p[i]? = some n) (hd : p.drop i = l ++ r) (hl : l ≠ []) : ∃ l',l = n :: l' ∧ p.drop (i + 1) = l' ++ r:=by
 cases l with
 | nil => exact absurd rfl hl
 | cons m l' =>
   have h1 : (p.drop i)[0]? = some n:=by rw [List.getElem?_drop]; exact hn
   rw [hd] at h1
   injection h1 with h1
   subst h1
   refine ⟨l',rfl,?_⟩
   rw [← List.drop_drop,hd]
   rfl
theorem fmt_lnT (p : List Nd) (hp : ∀ t ∈ p,NdG t) : ∀ d,LnT p d
 | 0 => ⟨fun k i j lv h s l r hx => (by rw [vAny] at hx; cases hx),fun k i j lv h s l r hb hx => (by rw [vAny] at hx; cases hx)⟩
 | d + 1 => by
   have ih:=fmt_lnT p hp d
   refine ⟨fun k i j lv h s l r hx hd ht hlv => ?_,fun k i j lv h s l r hb hx hd ht hlv => ?_⟩
   ·obtain ⟨n,ks,hn,ha,hf,hk,hxx⟩:=el_node hx
    have hg:=hp n (List.mem_of_getElem? hn)
    obtain ⟨l',rfl,hd'⟩:=drop_root hn hd ht.ne
    obtain ⟨ts,g,rfl,hpos,hts,hgh,hne⟩:=tre_root ht
    have hkl:=kids_len hk
    have htl : ts.length = ks.length:=by omega
    have hsh:=(kids_shp hk).1
    rw [fmtA,hn]
    simp only []
    rw [List.length_cons]
    cases hl : leafT n with
    | some t =>
      obtain ⟨rfl,_⟩:=leaf_kids hl hk
      have : ts = []:=List.eq_nil_of_length_eq_zero htl
      subst this
      rw [nextK] at hxx
      injection hxx with hxx
      have h1:=leaf_len hl hg
      have h2 : rsv k = 3:=by
       unfold rsv
       rw [if_neg]
       intro hk3
       rw [acc_leaf hk3 ha] at hl
       cases hl
      simp only []
      rw [wtP_cons,wtP_nil,h2]
      simp only [List.flatten_nil,List.length_nil]
      exact ⟨by omega,by show max 1 s.length + (fmtT t).length + 0 + 3 ≤ _; omega⟩
    | none =>
      have hh:=head_len ha hg
      have hr:=(rsv_le k).2
      simp only []
      by_cases h5 : n.kind = 5 ∧ n.pos = 0
      ·rw [if_pos h5]
       have hk0 : ks = []:=List.eq_nil_of_length_eq_zero (by omega)
       subst hk0
       have : ts = []:=List.eq_nil_of_length_eq_zero htl
       subst this
       rw [nextK] at hxx
       injection hxx with hxx
       rw [wtP_cons]
       have : wtP [([32],poT),([],pcT)] = 4:=rfl
       simp only [List.flatten_nil,List.length_nil]
       refine ⟨by omega,?_⟩
       show max 1 s.length + (fmtT (headT n)).length + wtP [([32],poT),([],pcT)] + rsv k ≤ _
       omega
      ·rw [if_neg h5,hk]
       rw [wtP_cons]
       show j = _ ∧ max 1 s.length + (fmtT (headT n)).length + wtP (restE (fmtA p d) ks lv (i + 1)).1 + rsv k ≤ _
       have hrest : j = i + 1 + ts.flatten.length ∧ wtP (restE (fmtA p d) ks lv (i + 1)).1 ≤ 4 + 32 * ts.flatten.length:=by
        unfold restE
        by_cases hks : ks = []
        ·subst hks
         have : ts = []:=List.eq_nil_of_length_eq_zero htl
         subst this
         rw [nextK] at hxx
         injection hxx with hxx
         rw [if_pos rfl]
         exact ⟨by simp; omega,by simp [wtP_nil]⟩
        ·rw [if_neg hks]
         unfold shpB at hsh
         rw [Bool.and_eq_true] at hsh
         have hnx:=args_next lv (fun k i j lv s h => fmt_next p d false k i j lv s h) ks true (i + 1) j hxx
         obtain ⟨ts2,a1,a2,a3,a4,a5⟩:=args_lnT ih lv g (by omega) ks ts r true (i + 1) j htl hts hd' hxx
         have hlv2 : ∀ q ∈ ks.dropWhile fun k => !blkB k,lv + g + (if listB q = true then 0 else 1) ≤ 6:=by
          intro q hq
          have hqb : blkB q = true:=List.all_eq_true.1 hsh.1 q hq
          cases hql : listB q with
          | true => simp only [if_true]; omega
          | false =>
            have:=hne (kids_nest ha hk ((List.dropWhile_sublist _).subset hq) hqb hql)
            simp only [Bool.false_eq_true,if_false]
            omega
         obtain ⟨b1,b2⟩:=blks_lnT ih lv g _ ts2 r true _ j hlv2 a1 a2 a3 hsh.1 hnx
         refine ⟨by omega,?_⟩
         show wtP (([32],poT) :: ((argsE (fmtA p d) lv ks true (i + 1)).1 ++ (blksE (fmtA p d) lv (ks.dropWhile fun k => !blkB k) true (argsE (fmtA p d) lv ks true (i + 1)).2).1)) ≤ _
         rw [wtP_cons,wtP_app]
         have : (fmtT poT).length = 1:=rfl
         have : max 1 ([32] : List UInt8).length = 1:=rfl
         show max 1 ([32] : List UInt8).length + (fmtT poT).length + (wtP (argsE (fmtA p d) lv ks true (i + 1)).1 + wtP (blksE (fmtA p d) lv (ks.dropWhile fun k => !blkB k) true (argsE (fmtA p d) lv ks true (i + 1)).2).1) ≤ _
         omega
       refine ⟨by omega,?_⟩
       omega
   ·obtain ⟨n,hn,⟨_,_,_,hn0⟩,hxx⟩:=bl_node hx
    obtain ⟨l',rfl,hd'⟩:=drop_root hn hd ht.ne
    obtain ⟨ts,g,rfl,hpos,hts,hgh,_⟩:=tre_root ht
    have hm : n.pos.toNat = ts.length:=by omega
    rw [hm] at hxx
    have hlv' : elV k lv + g ≤ 6:=by
     unfold elV
     cases hql : listB k with
     | true => rw [hql] at hlv; simp only [if_true] at hlv ⊢; omega
     | false => rw [hql] at hlv; simp only [Bool.false_eq_true,if_false] at hlv ⊢; omega
    obtain ⟨h1,h2⟩:=elems_lnT ih k hb lv g hlv' ts r true (i + 1) j hts hd' hxx
    rw [fmtA,hn]
    simp only [hm]
    rw [wtP_cons,wtP_app,List.length_cons]
    have h3 : (fmtT boT).length = 1:=rfl
    have h4 : wtP [(endS k lv ts.length,bcT)] ≤ 14:=by
     rw [wtP_cons,wtP_nil]
     have : (fmtT bcT).length = 1:=rfl
     have : (endS k lv ts.length).length ≤ 13:=by
      unfold endS
      split
      ·simp
      ·rw [List.length_cons,ind_len]; omega
     show max 1 (endS k lv ts.length).length + (fmtT bcT).length + 0 ≤ 14
     omega
    refine ⟨by omega,?_⟩
    show max 1 s.length + (fmtT boT).length + (wtP (elemsL (fmtA p d) k lv ts.length true (i + 1)).1 + wtP [(endS k lv ts.length,bcT)]) + 10 ≤ _
    omega
theorem flat_nil {h : Nat} {ts : List (List Nd)} (ht : ∀ t ∈ ts,Tre h t) (hf : ts.flatten = []) : ts = []:=by
 cases ts with
 | nil => rfl
 | cons a r =>
   rw [List.flatten_cons] at hf
   exact absurd (List.append_eq_nil_iff.1 hf).1 (ht a (by simp)).ne
theorem top_lnT (p : List Nd) (hp : ∀ t ∈ p,NdG t) : ∀ (f : Nat) (first : Bool) (i : Nat) (ts : List (List Nd)),(∀ t ∈ ts,Tre 6 t) → p.drop i = ts.flatten → vTop p f i = true → wtP (topE p f first i) + ts.length ≤ 32 * ts.flatten.length
 | 0,first,i,ts,ht,hd,h => by
   rw [vTop] at h
   have hpi : p.length ≤ i:=of_decide_eq_true h
   rw [List.drop_eq_nil_of_le hpi] at hd
   have:=flat_nil ht hd.symm
   subst this
   rw [topE]
   simp [wtP_nil]
 | f + 1,first,i,ts,ht,hd,h => by
   rw [topE]
   split
   ·next hpi =>
    rw [List.drop_eq_nil_of_le hpi] at hd
    have:=flat_nil ht hd.symm
    subst this
    simp [wtP_nil]
   ·next hlt =>
    rw [vTop,if_neg hlt] at h
    cases hx : vAny p 32 false 68 i with
    | none => rw [hx] at h; cases h
    | some q =>
      rw [hx] at h
      simp only [] at h
      cases ts with
      | nil =>
        have : (p.drop i).length = 0:=by rw [hd]; rfl
        rw [List.length_drop] at this
        omega
      | cons t ts =>
        rw [List.flatten_cons] at hd
        obtain ⟨h1,h2⟩:=(fmt_lnT p hp 32).1 68 i q 0 6 (if first = true then [] else [10]) t ts.flatten hx hd (ht t (by simp)) (by omega)
        have hd2:=drop_on hd
        rw [← h1] at hd2
        rw [fmt_next p 32 false 68 i q _ _ hx,wtP_app,List.length_cons,List.flatten_cons,List.length_append]
        have h4 : (if first = true then ([] : List UInt8) else [10]).length ≤ 1:=by split <;> simp
        have h5:=top_lnT p hp f false q ts (fun x hx => ht x (by simp [hx])) hd2 h
        have h6 : rsv 68 = 13:=by decide
        rw [h6] at h2
        omega
theorem wtP_ln6 (p : List Nd) (hp : ∀ t ∈ p,NdG t) (hv : validL p = true) (hf : For6 p) : wtP (topE p p.length true 0) + (tailL p).length ≤ 65536:=by
 have hv':=hv
 unfold validL at hv'
 simp only [Bool.and_eq_true,decide_eq_true_eq] at hv'
 obtain ⟨ts,e,ht⟩:=hf
 have h:=top_lnT p hp p.length true 0 ts ht (by rw [List.drop_zero]; exact e) hv'.2
 have h2 : (tailL p).length ≤ ts.length:=by
  unfold tailL
  split
  ·simp
  ·next hne =>
   cases ts with
   | nil => exact absurd e hne
   | cons a r => simp
 have h3 : ts.flatten.length = p.length:=by rw [← e]
 omega
theorem fmtP_ln6 (p : List Nd) (hp : ∀ t ∈ p,NdG t) (hv : validL p = true) (hf : For6 p) : (fmtP p).length ≤ 65536:=by
 have h:=wtP_ln6 p hp hv hf
 have h2:=wtP_le (topE p p.length true 0)
 unfold fmtP
 rw [List.length_append]
 omega
end
end Go.Proofs.YtnicnfchkdmieaaGreatDoor
