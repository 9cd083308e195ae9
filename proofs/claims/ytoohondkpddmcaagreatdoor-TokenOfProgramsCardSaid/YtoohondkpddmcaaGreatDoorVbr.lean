/- Pf -/
import Derived.Test.YtoohondkpddmcaaGreatDoorVbq
set_option linter.unusedVariables false
set_option linter.unusedSimpArgs false
namespace Go.Proofs.YtoohondkpddmcaaGreatDoor
open Go.RowKit
attribute [local go_sem] ByteArray.mk_append_mk bs_get bs_cut bs_end
abbrev csO : Obj:=.cells #[.string ⟨#[77]⟩,.string ⟨#[65]⟩,.string ⟨#[92,77]⟩,.string ⟨#[94,77]⟩] 9
def csL : List (List UInt8):=[[77],[65],[92,77],[94,77]]
theorem cs_at : ∀ k : Fin 4,∃ x ∈ csL,csL[k.val]? = some x ∧ x.length ≤ 4:=by decide +kernel
theorem cs_cell {w : World} {A : Nat} (h : w.heap[A]? = some csO) (k : Nat) (hk : k < 4) : ∃ x : List UInt8,x.length ≤ 4 ∧ w.cell? ⟨A,k,none⟩ = some (.string ⟨x.toArray⟩):=by
 obtain ⟨x,_,h1,h2⟩:=cs_at ⟨k,hk⟩
 refine ⟨x,h2,?_⟩
 rw [cell_of_row w A k _ _ (0,0) h]
 have e : (csL.map strV).toArray[k]? = some (strV x):=by
  have h1' : csL[k]? = some x:=h1
  rw [List.getElem?_toArray,List.getElem?_map,h1']
  rfl
 exact e
def CallOk (C : Nat) (dep : Int) (N : Nat) : Prop:=∀ (a : Int) (w : World),0 ≤ a → a ≤ 7 → CSt w C → Calls Tryz.prog 193 #[.pointer (some ⟨C,0,none⟩),.int .i64 dep,.int .i64 a] w (GPost C N w)
def SyncOk (C : Nat) (dep : Int) (N : Nat) : Prop:=∀ (a : Int) (w : World),0 ≤ a → a ≤ 7 → CSt w C → Calls Tryz.prog 194 #[.pointer (some ⟨C,0,none⟩),.int .i64 dep,.int .i64 a] w (GPost C N w)
set_option maxRecDepth 100000 in
set_option maxHeartbeats 8000000 in
theorem gcall_step (C : Nat) (dep : Int) (K N : Nat) (hd : -10 ≤ dep ∧ dep ≤ 10) (hK : K ≤ 1000) (hN : 1 + 2 * K ≤ N) (ih : ExprOk C (dep - 1) K) : CallOk C dep N:=by
 intro a w ha0 ha7 hc
 have HE:=Lib.hid ih
 unfold ExprOk at HE
 have HCW:=Lib.hid hc
 have HN:=Lib.hid (next_any C 3 w hc (by omega) (by omega))
 clear hc ih
 go_enter Tryz.func193,Tryz.ntmps193
 go_wp2_with fail
 ((with_reducible refine HN.out.mono ?_))
 rintro e w2 ⟨k2,rfl,hk2,hc3,hk3⟩
 have HK3:=Lib.hid hk3
 have HC3:=Lib.hid hc3
 clear hc3 hk3 HN
 go_wp2_with fail
 go_loopw [7,8] (fun x i wr => ∃ (v : Value) (vs : List Value) (q : Nat),v = x ∧ i = .int .i64 q ∧ q + vs.length ≤ 2 ∧ Hid (KRow wr w.heap.size v vs) ∧ Hid (NVs wr K vs) ∧ Hid (CSt wr C) ∧ Hid (Keep C w wr)) (fun _ i _ => (intOf i).toNat)
 case atStart => exact ⟨_,[],k2,rfl,rfl,by simp; omega,Lib.hid (KRow.nil _ _),Lib.hid (NVs.nil _ _),HC3,HK3⟩
 case round =>
  clear HC3 HK3
  obtain ⟨v,vs,q,rfl,rfl,hq,HR,HV,HC,HK⟩:=hrel
  obtain ⟨w3,rfl⟩ : ∃ y : World,y = wr:=⟨_,rfl⟩
  by_cases hq0 : 0 < q
  ·have hq1 : (0 : Int) < (q : Int):=by omega
   have HDD:=Lib.hid (HE.out a w3 ha0 ha7 HC.out)
   unfold GPost at HDD
   go_wp2_with fail
   ((with_reducible refine HDD.out.mono ?_))
   rintro e w5 ⟨v5,rfl,hv5,hc5,hk5⟩
   obtain ⟨a5,n5,c5,rfl⟩:=hv5.form
   have HR5:=Lib.hid (HR.out.keep HC.out hk5)
   have HV5:=Lib.hid (HV.out.keep HC.out hk5)
   have HC5:=Lib.hid hc5
   have HK5:=Lib.hid (HK.out.trans hk5)
   have HT5:=Lib.hid hv5
   clear hv5 hc5 hk5 HR HV HC HK
   have hal : Below w5.heap.size w5 (w5.alloc (.cells #[.slice a5 n5 c5] 24)):=(Below.refl _ _).alloc (Nat.le_refl _) _
   have HR6:=Lib.hid (HR5.out.below hal)
   have HV6:=Lib.hid ((HV5.out.below hal).snoc ((HT5.out.below hal).base (Nat.zero_le _)))
   have HC6:=Lib.hid (HC5.out.keep hal)
   have HK6:=Lib.hid (HK5.out.trans (Keep.of hal))
   have HNN : Hid ((w5.alloc (.cells #[.slice a5 n5 c5] 24)).heap[w5.heap.size]? = some (.cells #[.slice a5 n5 c5] 24 (0,0))):=Lib.hid (heap_alloc_new _ _)
   have hone:=HT5.out.one
   clear HR5 HV5 HC5 HK5 hal
   go_wp2_with (at_builtin; refine wpList_append_kid rfl _ _ rfl w.heap.size v vs rfl HR6.out w5.heap.size (.slice a5 n5 c5) hone rfl HNN.out (by omega) HK6.out.size ?_; intro v7 w7 ho hg; have HO:=Lib.hid ho; have HG7:=Lib.hid hg; clear ho hg)
   have HV7:=Lib.hid (HV6.out.grownRow HR6.out HG7.out)
   have HC7:=Lib.hid (HC6.out.grown HG7.out (fun g h => by have:=own_row HR6.out h; have:=HCW.out.lt; omega))
   have HK7:=Lib.hid (HK6.out.grown HG7.out (fun g h => own_row HR6.out h))
   clear HR6 HV6 HC6 HK6 HNN HG7 hone HT5
   go_wp2_with fail
   go_roundw
   case rel => first | exact ⟨vs ++ [.slice a5 n5 c5],q - 1,by go_num,by rw [List.length_append,List.length_singleton]; omega,HO,HV7,HC7,HK7⟩ | exact ⟨_,vs ++ [.slice a5 n5 c5],q - 1,rfl,by go_num,by rw [List.length_append,List.length_singleton]; omega,HO,HV7,HC7,HK7⟩
   case measure => simp [intOf]; omega
  ·have hq1 : ¬ (0 : Int) < (q : Int):=by omega
   have hqz : q = 0:=by omega
   obtain ⟨av,cv,rfl⟩:=HR.out.form
   have hA : (w3.alloc csO).heap[w3.heap.size]? = some csO:=heap_alloc_new _ _
   have hB : Below w3.heap.size w3 (w3.alloc csO):=(Below.refl _ _).alloc (Nat.le_refl _) _
   have HC2:=Lib.hid (HC.out.keep hB)
   have HR2:=Lib.hid (HR.out.below hB)
   have HV2:=Lib.hid (HV.out.below hB)
   have HK2 : Hid (Keep C w (w3.alloc csO)):=Lib.hid (HK.out.trans (Keep.of hB))
   have hCA : C < w3.heap.size:=HC.out.lt
   have HA:=Lib.hid hA
   have HNX:=Lib.hid (next_any C 4 (w3.alloc csO) HC2.out (by omega) (by omega))
   clear hA hB
   go_wp2_with fail
   ((with_reducible refine HNX.out.mono ?_))
   rintro e w4 ⟨k4,rfl,hk4,hc4,hkk4⟩
   have hA2 : w4.heap[w3.heap.size]? = some csO:=(hkk4.block _ (lt_of_block HA.out) (fun e => by injection e with e; omega)).trans HA.out
   obtain ⟨x,hx,e0⟩:=cs_cell hA2 k4 (by omega)
   have hk45 : (k4 : Int) < 4:=hk4
   have HK4:=Lib.hid (HK2.out.trans hkk4)
   have HC4:=Lib.hid hc4
   have HMUL : Hid (vs.length * K ≤ 2 * K):=Lib.hid (Nat.mul_le_mul_right K (by omega))
   have HG:=Lib.hid (gnode_any 5 0 x _ vs (List.replicate vs.length K) w4 (by omega) (by omega) (fun h => by unfold NestP at h; omega) (HR2.out.keep HC2.out hkk4).sl (by simp) (HV2.out.keep HC2.out hkk4).each (by omega) (by rw [sum_rep]; have:=HMUL.out; omega))
   rw [sum_rep] at HG
   clear hc4 hkk4 HNX HC2 HK2 hA2 HA HR HV HR2 HV2 HK HC
   go_wp2_with fail
   ((with_reducible refine HG.out.mono ?_))
   rintro e w5 ⟨v5,rfl,hv5,hb5⟩
   have HV5:=Lib.hid ((hv5.base (B':=w.heap.size) HK4.out.size).more (M:=N) (by have:=HMUL.out; omega))
   have HC5:=Lib.hid (HC4.out.keep hb5)
   have HK5:=Lib.hid (HK4.out.trans (Keep.of hb5))
   clear hv5 hb5
   go_wp2_with fail
   go_ret
   exact ⟨_,rfl,HV5.out,HC5.out,HK5.out⟩
set_option maxRecDepth 100000 in
set_option maxHeartbeats 8000000 in
theorem sync_step (C : Nat) (dep : Int) (E N : Nat) (hd : -10 ≤ dep ∧ dep ≤ 10) (hE : E ≤ 1000) (hN : 2 + E ≤ N) (h1 : 1 ≤ E) (ih : ExprOk C (dep - 1) E) : SyncOk C dep N:=by
 intro a w ha0 ha7 hc
 have HE:=Lib.hid ih
 unfold ExprOk at HE
 have HN:=Lib.hid (next_any C 2 w hc (by omega) (by omega))
 clear hc ih
 go_enter Tryz.func194,Tryz.ntmps194
 go_wp2_with fail
 ((with_reducible refine HN.out.mono ?_))
 rintro e w1 ⟨k,rfl,hk,hc1,hk1⟩
 have HC1:=Lib.hid hc1
 have HK1:=Lib.hid hk1
 clear hc1 hk1 HN
 by_cases c1 : k = 0
 ·subst c1
  have HF1x:=Lib.hid (nameOf_any [77,84,88] w1 (by simp))
  go_wp2_with fail
  ((with_reducible refine HF1x.out.mono ?_))
  rintro e w1x ⟨v1x,rfl,hvv1,hbb1⟩
  obtain ⟨a1x,n1x,c1x,rfl⟩:=hvv1.form
  have HK1x:=Lib.hid (HK1.out.trans (Keep.of hbb1))
  have HC1x:=Lib.hid (HC1.out.keep hbb1)
  have HT1x:=Lib.hid (hvv1.base (B':=0) (Nat.zero_le _))
  clear hvv1 hbb1 HF1x
  have HF2x:=Lib.hid (next_any C 3 w1x HC1x.out (by omega) (by omega))
  go_wp2_with fail
  ((with_reducible refine HF2x.out.mono ?_))
  rintro e w2x ⟨ka,rfl,hka,hcc2,hkk2⟩
  have hka' : (ka : Int) < 3:=hka
  have HT1xq2:=Lib.hid (HT1x.out.keep HC1x.out hkk2)
  have HK2x:=Lib.hid (HK1x.out.trans hkk2)
  have HC2x:=Lib.hid hcc2
  clear hcc2 hkk2 HF2x
  have HF3x:=Lib.hid (next_any C 40000 w2x HC2x.out (by omega) (by omega))
  go_wp2_with fail
  ((with_reducible refine HF3x.out.mono ?_))
  rintro e w3x ⟨kb,rfl,hkb,hcc3,hkk3⟩
  have hkb' : (kb : Int) < 40000:=hkb
  have HT1xq2q3:=Lib.hid (HT1xq2.out.keep HC2x.out hkk3)
  have HK3x:=Lib.hid (HK2x.out.trans hkk3)
  have HC3x:=Lib.hid hcc3
  clear hcc3 hkk3 HF3x
  have hmu : (0 : Int) ≤ (ka : Int) * (kb : Int) ∧ (ka : Int) * (kb : Int) ≤ 120000:=by
   have h:=Nat.mul_le_mul (show ka ≤ 3 by omega) (show kb ≤ 40000 by omega)
   have e : ((ka * kb : Nat) : Int) = (ka : Int) * (kb : Int):=Int.natCast_mul ka kb
   omega
  obtain ⟨pr,hpr⟩ : ∃ z : Int,(ka : Int) * (kb : Int) = z:=⟨_,rfl⟩
  have hmu2:=hmu
  rw [hpr] at hmu2
  have hwr : IntKind.i64.wrap ((ka : Int) * (kb : Int)) = pr:=by rw [IntKind.wrap_i64,hpr]; omega
  have HF4x:=Lib.hid (fun (z : Int) (hz : 0 ≤ z ∧ z ≤ 18446744073709551615) => gInt_any z w3x hz)
  clear hmu
  go_wp2_with fail
  ((with_reducible refine (HF4x.out _ ?_).mono ?_))
  ·omega
  rintro e w4x ⟨v4x,rfl,hvv4,hbb4⟩
  obtain ⟨a4x,n4x,c4x,rfl⟩:=hvv4.form
  have HT1xq2q3q4:=Lib.hid (HT1xq2q3.out.below hbb4)
  have HK4x:=Lib.hid (HK3x.out.trans (Keep.of hbb4))
  have HC4x:=Lib.hid (HC3x.out.keep hbb4)
  have HT4x:=Lib.hid (hvv4.base (B':=0) (Nat.zero_le _))
  clear hvv4 hbb4 HF4x
  have hal5 : Below w4x.heap.size w4x (w4x.alloc (.cells #[.slice a1x n1x c1x,.slice a4x n4x c4x] 24)):=(Below.refl _ _).alloc (Nat.le_refl _) _
  have HKL5:=Lib.hid (KSl.lit w4x [.slice a1x n1x c1x,.slice a4x n4x c4x] 2 rfl)
  have HT1xq2q3q4z:=Lib.hid (HT1xq2q3q4.out.below hal5)
  have HT4xz:=Lib.hid (HT4x.out.below hal5)
  have HCz5:=Lib.hid (HC4x.out.keep hal5)
  have HKz5:=Lib.hid (HK4x.out.trans (Keep.of hal5))
  have HF5x:=Lib.hid (kNode_any 41 _ [.slice a1x n1x c1x,.slice a4x n4x c4x] [1,1] (w4x.alloc (.cells #[.slice a1x n1x c1x,.slice a4x n4x c4x] 24)) (fun h => by unfold NestP at h; omega) HKL5.out rfl (fun i h1 h2 => by
   match i,h1 with
   | 0,_ => exact HT1xq2q3q4z.out
   | 1,_ => exact HT4xz.out) (by simp) (by simp only [List.sum_cons,List.sum_nil]; omega))
  go_wp2_with fail
  ((with_reducible refine HF5x.out.mono ?_))
  rintro e w5x ⟨v5x,rfl,hvv5,hbb5⟩
  have HK5x:=Lib.hid (HKz5.out.trans (Keep.of hbb5))
  have HC5x:=Lib.hid (HCz5.out.keep hbb5)
  have HVF:=Lib.hid ((hvv5.base (B':=w.heap.size) HKz5.out.size).more (M:=N) (by first | (simp only [List.sum_cons,List.sum_nil]; omega) | (omega)))
  clear hvv5 hbb5
  go_wp2_with fail
  go_ret
  exact ⟨_,rfl,HVF.out,HC5x.out,HK5x.out⟩
 ·have t1 : ((k : Int) == 0) = false:=by rw [beq_eq_false_iff_ne]; omega
  have HF1x:=Lib.hid (nameOf_any [69,86,84] w1 (by simp))
  go_wp2_with fail
  ((with_reducible refine HF1x.out.mono ?_))
  rintro e w1x ⟨v1x,rfl,hvv1,hbb1⟩
  obtain ⟨a1x,n1x,c1x,rfl⟩:=hvv1.form
  have HK1x:=Lib.hid (HK1.out.trans (Keep.of hbb1))
  have HC1x:=Lib.hid (HC1.out.keep hbb1)
  have HT1x:=Lib.hid (hvv1.base (B':=0) (Nat.zero_le _))
  clear hvv1 hbb1 HF1x
  have HF2x:=Lib.hid (HE.out a w1x ha0 ha7 HC1x.out)
  unfold GPost at HF2x
  go_wp2_with fail
  ((with_reducible refine HF2x.out.mono ?_))
  rintro e w2x ⟨v2x,rfl,hvv2,hcc2,hkk2⟩
  obtain ⟨a2x,n2x,c2x,rfl⟩:=hvv2.form
  have HT1xq2:=Lib.hid (HT1x.out.keep HC1x.out hkk2)
  have HK2x:=Lib.hid (HK1x.out.trans hkk2)
  have HC2x:=Lib.hid hcc2
  have HT2x:=Lib.hid (hvv2.base (B':=0) (Nat.zero_le _))
  clear hvv2 hcc2 hkk2 HF2x
  have hal3 : Below w2x.heap.size w2x (w2x.alloc (.cells #[.slice a1x n1x c1x,.slice a2x n2x c2x] 24)):=(Below.refl _ _).alloc (Nat.le_refl _) _
  have HKL3:=Lib.hid (KSl.lit w2x [.slice a1x n1x c1x,.slice a2x n2x c2x] 2 rfl)
  have HT1xq2z:=Lib.hid (HT1xq2.out.below hal3)
  have HT2xz:=Lib.hid (HT2x.out.below hal3)
  have HCz3:=Lib.hid (HC2x.out.keep hal3)
  have HKz3:=Lib.hid (HK2x.out.trans (Keep.of hal3))
  have HF3x:=Lib.hid (kNode_any 42 _ [.slice a1x n1x c1x,.slice a2x n2x c2x] [1,E] (w2x.alloc (.cells #[.slice a1x n1x c1x,.slice a2x n2x c2x] 24)) (fun h => by unfold NestP at h; omega) HKL3.out rfl (fun i h1 h2 => by
   match i,h1 with
   | 0,_ => exact HT1xq2z.out
   | 1,_ => exact HT2xz.out) (by simp) (by simp only [List.sum_cons,List.sum_nil]; omega))
  go_wp2_with fail
  ((with_reducible refine HF3x.out.mono ?_))
  rintro e w3x ⟨v3x,rfl,hvv3,hbb3⟩
  have HK3x:=Lib.hid (HKz3.out.trans (Keep.of hbb3))
  have HC3x:=Lib.hid (HCz3.out.keep hbb3)
  have HVF:=Lib.hid ((hvv3.base (B':=w.heap.size) HKz3.out.size).more (M:=N) (by first | (simp only [List.sum_cons,List.sum_nil]; omega) | (omega)))
  clear hvv3 hbb3
  go_wp2_with fail
  go_ret
  exact ⟨_,rfl,HVF.out,HC3x.out,HK3x.out⟩
end Go.Proofs.YtoohondkpddmcaaGreatDoor
