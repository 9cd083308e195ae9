/- Pb -/
import Derived.Test.YtoohondkpddmcaaGreatDoorVba
set_option linter.unusedVariables false
set_option linter.unusedSimpArgs false
namespace Go.Proofs.YtoohondkpddmcaaGreatDoor
open Go.RowKit
attribute [local go_sem] ByteArray.mk_append_mk bs_get bs_cut bs_end
def NdG (t : Nd) : Prop:=t.str.length ≤ 6 ∧ 0 ≤ t.num ∧ t.num ≤ 18446744073709551615
def NestP (op : Int) : Prop:=10 ≤ op ∧ op ≤ 12 ∨ op = 14 ∨ op = 16 ∨ op = 17 ∨ op = 31 ∨ op = 32
inductive Tre : Nat → List Nd → Prop
 | flat (h : Nat) (n : Nd) (ks : List (List Nd)) (hp : n.pos = ks.length) (hn : ¬ NestP n.kind) (hk : ∀ k ∈ ks,Tre h k) : Tre h (n :: ks.flatten)
 | nest (h : Nat) (n : Nd) (ks : List (List Nd)) (hp : n.pos = ks.length) (hk : ∀ k ∈ ks,Tre h k) : Tre (h + 1) (n :: ks.flatten)
theorem Tre.mono {h : Nat} {l : List Nd} (t : Tre h l) : ∀ {h' : Nat},h ≤ h' → Tre h' l:=by
 induction t with
 | flat h n ks hp hn hk ih => intro h' hh; exact .flat h' n ks hp hn (fun k hkk => ih k hkk hh)
 | nest h n ks hp hk ih =>
   intro h' hh
   obtain ⟨g,rfl⟩ : ∃ g,h' = g + 1:=⟨h' - 1,by omega⟩
   exact .nest g n ks hp (fun k hkk => ih k hkk (by omega))
def For6 (l : List Nd) : Prop:=∃ ts : List (List Nd),l = ts.flatten ∧ ∀ t ∈ ts,Tre 6 t
theorem For6.nil : For6 []:=⟨[],rfl,fun t h => by cases h⟩
theorem For6.snoc {l l2 : List Nd} (h : For6 l) (h2 : Tre 6 l2) : For6 (l ++ l2):=by
 obtain ⟨ts,rfl,h1⟩:=h
 refine ⟨ts ++ [l2],by simp,fun t ht => ?_⟩
 rcases List.mem_append.1 ht with h | h
 ·exact h1 t h
 ·simp only [List.mem_cons,List.not_mem_nil,or_false] at h; subst h; exact h2
def dpN (N : Nat) : Nat:=if N < 16 then 0 else if N < 140 then 1 else if N < 1000 then 2 else if N < 6055 then 3 else if N < 18173 then 4 else if N < 54530 then 5 else 6
theorem dpN_mono {N M : Nat} (h : N ≤ M) : dpN N ≤ dpN M:=by
 unfold dpN
 repeat' split
 all_goals omega
theorem dpN_le (N : Nat) : dpN N ≤ 6:=by
 unfold dpN
 repeat' split
 all_goals omega
theorem le_sum : ∀ (Ns : List Nat) (N : Nat),N ∈ Ns → N ≤ Ns.sum
 | [],N,h => by cases h
 | a :: r,N,h => by
   rw [List.sum_cons]
   rcases List.mem_cons.1 h with rfl | h
   ·omega
   ·have:=le_sum r N h; omega
def NV (w : World) (B N : Nat) (v : Value) : Prop:=∃ ns : List Nd,NodesI w B v ns ∧ (∀ t ∈ ns,NdG t) ∧ ns.length ≤ N ∧ ns ≠ [] ∧ Tre (dpN N) ns
theorem NV.below {w w' : World} {B N : Nat} {v : Value} (h : NV w B N v) (hb : Below w.heap.size w w') : NV w' B N v:=by
 obtain ⟨ns,h1,h2,h3⟩:=h
 exact ⟨ns,h1.below hb,h2,h3⟩
theorem NV.base {w : World} {B B' N : Nat} {v : Value} (h : NV w B N v) (hB : B' ≤ B) : NV w B' N v:=by
 obtain ⟨ns,h1,h2,h3⟩:=h
 exact ⟨ns,own_base h1 hB,h2,h3⟩
theorem NV.more {w : World} {B N M : Nat} {v : Value} (h : NV w B N v) (hN : N ≤ M) : NV w B M v:=by
 obtain ⟨ns,h1,h2,h3⟩:=h
 exact ⟨ns,h1,h2,by have:=h3.1; omega,h3.2.1,h3.2.2.mono (dpN_mono hN)⟩
theorem own_ch {w : World} {B : Nat} {v : Value} {l : List Nd} (h : NodesI w B v l) {C : Nat} {tv : Value} {i : Int} (hb : w.heap[C]? = some (chObj tv i)) : v.ownBlock ≠ some C:=by
 intro e
 obtain ⟨cur,hc⟩:=own_type h e
 rw [hb] at hc
 injection hc with hc
 injection hc with _ h2 _
 exact absurd h2 (by decide)
theorem NV.keep {w w' : World} {B N C : Nat} {v : Value} (h : NV w B N v) (hC : CSt w C) (hk : Keep C w w') : NV w' B N v:=by
 obtain ⟨ns,h1,h2,h3⟩:=h
 obtain ⟨a,cap,i,l,hc,_⟩:=hC
 exact ⟨ns,own_grown h1 hk (fun g hg e => own_ch h1 hc (by rw [hg,e])),h2,h3⟩
def KSl (w : World) (kv : Value) (vs : List Value) : Prop :=
 ∃ (a : Option Addr) (cap : Nat),kv = .slice a vs.length cap ∧ (vs ≠ [] → ∃ b off,a = some ⟨b,off,none⟩ ∧ ∀ i (h : i < vs.length),w.cell? ⟨b,off + i,none⟩ = some vs[i])
theorem KSl.below {w w' : World} {kv : Value} {vs : List Value} (h : KSl w kv vs) (hb : Below w.heap.size w w') : KSl w' kv vs:=by
 obtain ⟨a,cap,hv,hc⟩:=h
 refine ⟨a,cap,hv,fun hn => ?_⟩
 obtain ⟨b,off,ha,hk⟩:=hc hn
 exact ⟨b,off,ha,fun i hi => (hb.cell (p:=⟨b,off + i,none⟩) (World.block_lt_of_cell? w _ (hk i hi))).trans (hk i hi)⟩
theorem tcI_one : ∀ (l : List Nd) (u : Value),u ∈ tcI l → u.oneCell' = true
 | [],u,h => by cases h
 | t :: r,u,h => by
   simp only [tcI,List.mem_cons] at h
   rcases h with rfl | rfl | rfl | rfl | h
   ·rfl
   ·rfl
   ·rfl
   ·rfl
   ·exact tcI_one r u h
theorem wpList_append_nodes {w : World} {ops : Array Oper} {rest : List Oper} {o : Oper} {a : Act} {Q : Exit → Act → World → Prop} (hgd : o.guard = none) (s x : Operand)
  (ho : o.op = .call { callee:=.builtin .append,args:=#[s,x],argTypes:=#[24,24] })
  (B : Nat) (v : Value) (l1 : List Nd) (hs : a.eval s = v) (hown : NodesI w B v l1)
  (B2 : Nat) (y : Value) (l2 : List Nd) (hx : a.eval x = y) (hy : NodesI w B2 y l2) (hlen : l1.length + l2.length ≤ 1000000) (hB : B ≤ w.heap.size)
  (h : ∀ v' w',NodesI w' B v' (l1 ++ l2) → w.grownBy w' v.ownBlock → wpList Tryz.prog ops Q rest (a.put o.dst v') w') : wpList Tryz.prog ops Q (o :: rest) a w:=by
 obtain ⟨i0,hi,hz0,hz1,hz2⟩:=info_parts infoNode
 rcases hy.2 with ⟨rfl,h0⟩ | ⟨g,cap,cur,rfl,hg,hb,hn,hm,hsz,ht⟩
 ·have hn : l2 = []:=List.eq_nil_of_length_eq_zero h0
  subst hn
  refine wpList_append_own_none hgd s x _ ho B 46 i0 4 Tryz.underlying24 hi v l1.length _ hs hown hx ?_
  exact h v w (by simpa using hown) (World.grownBy.refl _ _)
 ·refine wpList_append_own _ hgd s x _ ho B 46 i0 _ 4 40 Tryz.underlying24 hi hz0 hz1 hz2 rfl (by decide) v l1.length _ hs hown ⟨g,0,none⟩ l2.length cap (tcI l2) hx (by rw [tcI_len]) ?_ ?_ (by unfold maxLen; omega) (by omega) hB ?_
  ·intro j z hj
   have e : (⟨g,0,none⟩ : Addr).add j = ⟨g,j,none⟩:=by by_cases h : j = 0 <;> simp [Addr.add,h]
   have hjl : j < l2.length * 4:=by
    rcases Nat.lt_or_ge j (l2.length * 4) with h | h
    ·exact h
    ·rw [List.getElem?_eq_none (by rw [tcI_len]; omega)] at hj; cases hj
   rw [e,World.ownsRow.cellAt hy j hjl]
   exact hj
  ·intro z hz
   exact tcI_one l2 z hz
  ·intro v' w' h1 h2 _
   refine h v' w' ?_ h2
   unfold NodesI
   rw [List.length_append,tcI_app]
   exact h1
theorem nest_sum {Ns : List Nat} {B K : Nat} (hK : K ≤ 1 + Ns.sum) (hB : dpN B + 1 ≤ dpN K) (h : ∀ N ∈ Ns,N ≤ B) : ∃ g,dpN (1 + Ns.sum) = g + 1 ∧ ∀ N ∈ Ns,dpN N ≤ g:=by
 have hm:=dpN_mono hK
 refine ⟨dpN (1 + Ns.sum) - 1,by omega,fun N hN => ?_⟩
 have:=dpN_mono (h N hN)
 omega
def KT (Ns : List Nat) (n : Nd) (k : Nat) (l : List Nd) : Prop:=∃ ks : List (List Nd),l = n :: ks.flatten ∧ ks.length = k ∧ ∀ j (h : j < ks.length),∃ h2 : j < Ns.length,Tre (dpN Ns[j]) ks[j]
theorem KT.ne {Ns : List Nat} {n : Nd} {k : Nat} {l : List Nd} (h : KT Ns n k l) : l ≠ []:=by
 obtain ⟨ks,rfl,_⟩:=h; simp
theorem KT.snoc {Ns : List Nat} {n : Nd} {k : Nat} {l l2 : List Nd} (h : KT Ns n k l) (hk : k < Ns.length) (ht2 : Tre (dpN Ns[k]) l2) : KT Ns n (k + 1) (l ++ l2):=by
 obtain ⟨ks,rfl,hl,hj⟩:=h
 refine ⟨ks ++ [l2],by simp,by simp [hl],fun j hjl => ?_⟩
 by_cases hjk : j < ks.length
 ·rw [List.getElem_append_left hjk]; exact hj j hjk
 ·have hjk2 : j = k:=by rw [List.length_append,List.length_singleton] at hjl; omega
  subst hjk2
  refine ⟨hk,?_⟩
  rw [List.getElem_append_right (by omega)]
  simp only [hl,Nat.sub_self,List.getElem_singleton]
  exact ht2
theorem KT.tre {Ns : List Nat} {op num : Int} {s : List UInt8} {k : Nat} {l : List Nd} (h : KT Ns ⟨op,num,s,k⟩ k l) (hk : Ns.length = k) (hnp : NestP op → ∃ g,dpN (1 + Ns.sum) = g + 1 ∧ ∀ N ∈ Ns,dpN N ≤ g) : Tre (dpN (1 + Ns.sum)) l:=by
 obtain ⟨ks,rfl,hl,hj⟩:=h
 have key : ∀ x ∈ ks,∃ N ∈ Ns,Tre (dpN N) x:=by
  intro x hx
  obtain ⟨j,hjl,rfl⟩:=List.mem_iff_getElem.1 hx
  obtain ⟨h2,h3⟩:=hj j hjl
  exact ⟨_,List.getElem_mem h2,h3⟩
 by_cases hn : NestP op
 ·obtain ⟨g,hg,hall⟩:=hnp hn
  rw [hg]
  refine .nest g _ ks (by simp [hl]) (fun x hx => ?_)
  obtain ⟨M,hM,hx2⟩:=key x hx
  exact hx2.mono (hall M hM)
 ·refine .flat _ _ ks (by simp [hl]) hn (fun x hx => ?_)
  obtain ⟨M,hM,hx2⟩:=key x hx
  exact hx2.mono (dpN_mono (by have:=le_sum Ns M hM; omega))
theorem sum_take : ∀ (l : List Nat) (k : Nat) (h : k < l.length),(l.take (k + 1)).sum = (l.take k).sum + l[k]
 | a :: r,0,h => by simp
 | a :: r,k + 1,h => by
   have:=sum_take r k (by simpa using h)
   simp only [List.take_succ_cons,List.sum_cons,List.getElem_cons_succ] at this ⊢
   omega
theorem sum_take_le : ∀ (l : List Nat) (k : Nat),(l.take k).sum ≤ l.sum
 | [],k => by simp
 | a :: r,0 => by simp
 | a :: r,k + 1 => by
   have:=sum_take_le r k
   simp only [List.take_succ_cons,List.sum_cons]
   omega
set_option maxRecDepth 100000 in
set_option maxHeartbeats 2000000 in
theorem gnode_any (op num : Int) (s : List UInt8) (kv : Value) (vs : List Value) (Ns : List Nat) (w : World) (hs : s.length ≤ 6) (hn0 : 0 ≤ num ∧ num ≤ 18446744073709551615) (hnp : NestP op → ∃ g,dpN (1 + Ns.sum) = g + 1 ∧ ∀ N ∈ Ns,dpN N ≤ g) (hk : KSl w kv vs) (hNl : Ns.length = vs.length) (hv : ∀ i (h : i < vs.length) (h2 : i < Ns.length),NV w 0 Ns[i] vs[i]) (hm : vs.length ≤ 10000) (h1 : 1 + Ns.sum ≤ 900000) :
  Calls Tryz.prog 94 #[.int .i64 op,.int .u64 num,.string ⟨s.toArray⟩,kv] w fun e w' => ∃ v,e = .returned v ∧ NV w' w.heap.size (1 + Ns.sum) v ∧ Below w.heap.size w w':=by
 have HKS:=Lib.hid hk
 have HVS:=Lib.hid hv
 obtain ⟨a,cap,rfl,hc⟩:=hk
 have HC:=Lib.hid hc
 obtain ⟨P,hP⟩ : ∃ P,w.heap.size = P:=⟨_,rfl⟩
 have HPE:=Lib.hid hP
 have HR0 : Hid (NodesI (w.alloc (nObj op num s vs.length)) P (.slice (some ⟨P,0,none⟩) 1 1) [⟨op,num,s,vs.length⟩]):=Lib.hid (by rw [← hP]; exact World.ownsRow_lit w (tcI [⟨op,num,s,vs.length⟩]).toArray 1 (Nat.le_refl _) (by unfold maxLen; omega) rfl)
 have HB0 : Hid (Below P w (w.alloc (nObj op num s vs.length))):=Lib.hid ((Below.refl _ _).alloc (by omega) _)
 obtain ⟨M,hM⟩ : ∃ M,vs.length = M:=⟨_,rfl⟩
 have HM:=Lib.hid hM
 have HNL:=Lib.hid hNl
 have HNP:=Lib.hid hnp
 have HKT0 : Hid (KT Ns ⟨op,num,s,vs.length⟩ 0 [⟨op,num,s,vs.length⟩]):=Lib.hid ⟨[],rfl,rfl,fun j h => (by cases h)⟩
 rw [hM] at hm HR0 HB0 HKS HKT0
 rw [hP,hM]
 clear hv hc hNl hnp
 go_enter Tryz.func94,Tryz.ntmps94
 go_upto_region 2 with fail
 (try simp only [hP])
 generalize w.alloc (nObj op num s M) = W0 at HR0 HB0 ⊢
 clear hP hM
 go_wp2_with fail
 go_loopw [9,10] (fun x i wr => ∃ (v : Value) (k : Nat) (ns : List Nd),v = x ∧ i = .int .i64 k ∧ k ≤ M ∧ ns.length ≤ 1 + (Ns.take k).sum ∧ Hid (KT Ns ⟨op,num,s,M⟩ k ns) ∧ Hid (NodesI wr P v ns) ∧ Hid (∀ t ∈ ns,NdG t) ∧ Hid (Below P w wr)) (fun _ i _ => M - (intOf i).toNat)
 case atStart => exact ⟨_,0,_,rfl,rfl,by omega,by simp,HKT0,HR0,Lib.hid (by intro t ht; simp only [List.mem_cons,List.not_mem_nil,or_false] at ht; subst ht; exact ⟨hs,hn0⟩),HB0⟩
 case round =>
  clear HR0 HB0 HKT0
  obtain ⟨v,k,ns,rfl,rfl,hkM,hnl,HKT,HR,HG,HB⟩:=hrel
  obtain ⟨w3,rfl⟩ : ∃ y : World,y = wr:=⟨_,rfl⟩
  have hsz : P ≤ w3.heap.size:=by have:=HB.out.size; have:=HPE.out; omega
  by_cases hlt : k < M
  ·have hlt' : (k : Int) < (M : Int):=by omega
   have hkl : k < vs.length:=by rw [HM.out]; exact hlt
   obtain ⟨b,off,rfl,hcell⟩:=HC.out (by rintro rfl; simp at hkl)
   have c0:=hcell k hkl
   obtain ⟨y,hy⟩ : ∃ y,vs[k] = y:=⟨_,rfl⟩
   rw [hy] at c0
   have hbw : b < w.heap.size:=World.block_lt_of_cell? w _ c0
   have d0 : w3.cell? ⟨b,off + k,none⟩ = some y:=(HB.out.cell (p:=⟨b,off + k,none⟩) (by rw [← HPE.out]; exact hbw)).trans c0
   have hkN : k < Ns.length:=by rw [HNL.out]; exact hkl
   have hvk:=HVS.out k hkl hkN
   rw [hy] at hvk
   obtain ⟨l2,j1,j2,j3,_,j5⟩:=hvk
   have HKT2 : Hid (KT Ns ⟨op,num,s,M⟩ (k + 1) (ns ++ l2)):=Lib.hid (HKT.out.snoc hkN j5)
   have HY : Hid (NodesI w3 0 y l2):=Lib.hid (j1.below (HB.out.mono (by rw [HPE.out]; exact Nat.le_refl _)))
   have HG2:=Lib.hid j2
   have hkk:=sum_take Ns k hkN
   have hkb:=sum_take_le Ns k
   have hkb2:=sum_take_le Ns (k + 1)
   obtain ⟨sk,hsk⟩ : ∃ z,(Ns.take k).sum = z:=⟨_,rfl⟩
   obtain ⟨sk1,hsk1⟩ : ∃ z,(Ns.take (k + 1)).sum = z:=⟨_,rfl⟩
   obtain ⟨nk,hnk⟩ : ∃ z,Ns[k] = z:=⟨_,rfl⟩
   rw [hsk] at hnl hkk hkb
   rw [hsk1,hnk] at hkk
   rw [hnk] at j3
   clear hcell c0 hy j1 j2 j5 HKT
   go_wp2_with (at_builtin; refine wpList_append_nodes rfl _ _ rfl P v ns rfl HR.out 0 y l2 rfl HY.out (by omega) hsz ?_; intro v2 w2 ho hg; have HO:=Lib.hid ho; have HGR:=Lib.hid hg; clear ho hg)
   have HB5 : Hid (Below P w w2):=Lib.hid (HB.out.grown HGR.out hsz (fun j hj => own_row HR.out hj))
   have HG5 : Hid (∀ t ∈ ns ++ l2,NdG t):=Lib.hid (fun t ht => by
    rcases List.mem_append.1 ht with h | h
    ·exact HG.out t h
    ·exact HG2.out t h)
   have hln : (ns ++ l2).length ≤ 1 + (Ns.take (k + 1)).sum:=by rw [List.length_append,hsk1]; omega
   clear HGR d0 HY HR
   go_wp2_with fail
   go_roundw
   case rel => first | exact ⟨k + 1,ns ++ l2,by go_num,by omega,hln,HKT2,HO,HG5,HB5⟩ | exact ⟨_,k + 1,ns ++ l2,rfl,by go_num,by omega,hln,HKT2,HO,HG5,HB5⟩
   case measure => simp [intOf]; omega
  ·have hlt' : ¬ (k : Int) < (M : Int):=by omega
   have hkM2 : k = M:=by omega
   go_wp2_with fail
   go_ret
   subst hkM2
   exact ⟨_,rfl,⟨ns,HR.out,HG.out,by rw [List.take_of_length_le (by rw [HNL.out,HM.out]; omega)] at hnl; exact hnl,HKT.out.ne,HKT.out.tre (by rw [HNL.out,HM.out]) HNP.out⟩,HB.out⟩
theorem kNode_any (op : Int) (kv : Value) (vs : List Value) (Ns : List Nat) (w : World) (hnp : NestP op → ∃ g,dpN (1 + Ns.sum) = g + 1 ∧ ∀ N ∈ Ns,dpN N ≤ g) (hk : KSl w kv vs) (hNl : Ns.length = vs.length) (hv : ∀ i (h : i < vs.length) (h2 : i < Ns.length),NV w 0 Ns[i] vs[i]) (hm : vs.length ≤ 10000) (h1 : 1 + Ns.sum ≤ 900000) :
  Calls Tryz.prog 46 #[.int .i64 op,kv] w fun e w' => ∃ v,e = .returned v ∧ NV w' w.heap.size (1 + Ns.sum) v ∧ Below w.heap.size w w':=by
 have HN:=Lib.hid (gnode_any op 0 [] kv vs Ns w (by simp) (by omega) hnp hk hNl hv hm h1)
 generalize 1 + Ns.sum = NN at HN ⊢
 clear hk hv hm h1 hNl hnp
 go_enter Tryz.func46,Tryz.ntmps46
 go_wp2_with fail
 ((with_reducible refine HN.out.mono ?_))
 rintro e w1 ⟨v,rfl,hv,hb⟩
 have HV:=Lib.hid hv
 have HB:=Lib.hid hb
 clear hv hb
 go_wp2_with fail
 go_ret
 exact ⟨_,rfl,HV.out,HB.out⟩
theorem KSl.nil (w : World) : KSl w (.slice none 0 0) []:=⟨none,0,rfl,fun h => absurd rfl h⟩
theorem gInt_any (n : Int) (w : World) (hn : 0 ≤ n ∧ n ≤ 18446744073709551615) :
  Calls Tryz.prog 48 #[.int .u64 n] w fun e w' => ∃ v,e = .returned v ∧ NV w' w.heap.size 1 v ∧ Below w.heap.size w w':=by
 have HN:=Lib.hid (gnode_any 1 n [] _ [] [] w (by simp) hn (fun h => by unfold NestP at h; omega) (KSl.nil w) rfl (fun i h => by cases h) (by simp) (by simp))
 simp only [List.sum_nil,Nat.add_zero] at HN
 go_enter Tryz.func48,Tryz.ntmps48
 go_wp2_with fail
 ((with_reducible refine HN.out.mono ?_))
 rintro e w1 ⟨v,rfl,hv,hb⟩
 have HV:=Lib.hid hv
 have HB:=Lib.hid hb
 clear hv hb
 go_wp2_with fail
 go_ret
 exact ⟨_,rfl,HV.out,HB.out⟩
theorem nameOf_any (s : List UInt8) (w : World) (hs : s.length ≤ 6) :
  Calls Tryz.prog 47 #[.string ⟨s.toArray⟩] w fun e w' => ∃ v,e = .returned v ∧ NV w' w.heap.size 1 v ∧ Below w.heap.size w w':=by
 have HN:=Lib.hid (gnode_any 3 0 s _ [] [] w hs (by omega) (fun h => by unfold NestP at h; omega) (KSl.nil w) rfl (fun i h => by cases h) (by simp) (by simp))
 simp only [List.sum_nil,Nat.add_zero] at HN
 clear hs
 go_enter Tryz.func47,Tryz.ntmps47
 go_wp2_with fail
 ((with_reducible refine HN.out.mono ?_))
 rintro e w1 ⟨v,rfl,hv,hb⟩
 have HV:=Lib.hid hv
 have HB:=Lib.hid hb
 clear hv hb
 go_wp2_with fail
 go_ret
 exact ⟨_,rfl,HV.out,HB.out⟩
end Go.Proofs.YtoohondkpddmcaaGreatDoor
