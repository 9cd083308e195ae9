/- Pd Pe -/
import Derived.Test.YtoohondkpddmcaaGreatDoorVbp
set_option linter.unusedVariables false
set_option linter.unusedSimpArgs false
namespace Go.Proofs.YtoohondkpddmcaaGreatDoor
section
open Go.RowKit
attribute [local go_sem] ByteArray.mk_append_mk bs_get bs_cut bs_end
theorem NV.form {w : World} {B N : Nat} {v : Value} (h : NV w B N v) : ∃ a n c,v = .slice a n c:=by
 obtain ⟨ns,h1,_⟩:=h
 obtain ⟨a,c,rfl⟩:=h1.form
 exact ⟨a,_,c,rfl⟩
theorem KSl.lit (w : World) (vs : List Value) (n : Nat) (hn : n = vs.length) : KSl (w.alloc (.cells vs.toArray 24)) (.slice (some ⟨w.heap.size,0,none⟩) n n) vs:=by
 subst hn
 refine ⟨_,_,rfl,fun _ => ⟨_,0,rfl,fun i hi => ?_⟩⟩
 rw [cell_of_row _ _ _ _ _ (0,0) (heap_alloc_new w (.cells vs.toArray 24)),Nat.zero_add]
 simp [hi]
abbrev dsO : Obj:=.cells #[.string ⟨#[]⟩,.string ⟨#[120]⟩,.string ⟨#[48,70]⟩,.string ⟨#[49,50,97,98]⟩,.string ⟨#[0,255,34,92]⟩] 9
def dsL : List (List UInt8):=[[],[120],[48,70],[49,50,97,98],[0,255,34,92]]
theorem ds_at : ∀ k : Fin 5,∃ x ∈ dsL,dsL[k.val]? = some x ∧ x.length ≤ 4:=by decide +kernel
theorem ds_cell {w : World} {A : Nat} (h : w.heap[A]? = some dsO) (k : Nat) (hk : k < 5) : ∃ x : List UInt8,x.length ≤ 4 ∧ w.cell? ⟨A,k,none⟩ = some (.string ⟨x.toArray⟩):=by
 obtain ⟨x,_,h1,h2⟩:=ds_at ⟨k,hk⟩
 refine ⟨x,h2,?_⟩
 rw [cell_of_row w A k _ _ (0,0) h]
 have e : (dsL.map strV).toArray[k]? = some (strV x):=by
  have h1' : dsL[k]? = some x:=h1
  rw [List.getElem?_toArray,List.getElem?_map,h1']
  rfl
 exact e
theorem sum_rep (m K : Nat) : (List.replicate m K).sum = m * K:=by
 induction m with
 | zero => simp
 | succ m ih => rw [List.replicate_succ,List.sum_cons,ih,Nat.add_mul]; omega
def dataN : Nat → Nat
 | 0 => 6
 | d + 1 => 3 + 3 * dataN d
theorem dataN_le (d : Nat) (h : d ≤ 5) : dataN d ≤ 3000:=by
 match d,h with
 | 0,_ => exact (by decide)
 | 1,_ => exact (by decide)
 | 2,_ => exact (by decide)
 | 3,_ => exact (by decide)
 | 4,_ => exact (by decide)
 | 5,_ => exact (by decide)
theorem dataN_pos : ∀ d,6 ≤ dataN d
 | 0 => Nat.le_refl _
 | d + 1 => by have:=dataN_pos d; unfold dataN; omega
def DataOk (C d : Nat) : Prop:=∀ w,CSt w C → Calls Tryz.prog 49 #[.pointer (some ⟨C,0,none⟩),.int .i64 d] w (GPost C (dataN d) w)
set_option maxRecDepth 100000 in
set_option maxHeartbeats 8000000 in
theorem data_step (C d : Nat) (hd : d ≤ 5) (ih : ∀ d',d = d' + 1 → DataOk C d') : DataOk C d:=by
 intro w hc
 have IH:=Lib.hid ih
 have HN:=Lib.hid (next_any C 5 w hc (by omega) (by omega))
 have HPOS:=Lib.hid (dataN_pos d)
 have HCW:=Lib.hid hc
 clear hc ih
 go_enter Tryz.func49,Tryz.ntmps49
 go_wp2_with fail
 ((with_reducible refine HN.out.mono ?_))
 rintro e w1 ⟨k,rfl,hk,hc1,hk1⟩
 have HC1:=Lib.hid hc1
 have HK1:=Lib.hid hk1
 clear hc1 hk1 HN
 by_cases c1 : k = 1
 ·subst c1
  have hA : (w1.alloc dsO).heap[w1.heap.size]? = some dsO:=heap_alloc_new _ _
  have hB : Below w1.heap.size w1 (w1.alloc dsO):=(Below.refl _ _).alloc (Nat.le_refl _) _
  have HC2:=Lib.hid (HC1.out.keep hB)
  have HK2 : Hid (Keep C w (w1.alloc dsO)):=Lib.hid (HK1.out.trans (Keep.of hB))
  have hCA : C < w1.heap.size:=HC1.out.lt
  have HA:=Lib.hid hA
  have HNX:=Lib.hid (next_any C 5 (w1.alloc dsO) HC2.out (by omega) (by omega))
  clear hA hB
  go_wp2_with fail
  ((with_reducible refine HNX.out.mono ?_))
  rintro e w2 ⟨k2,rfl,hk2,hc3,hk3⟩
  have hA2 : w2.heap[w1.heap.size]? = some dsO:=(hk3.block _ (lt_of_block HA.out) (fun e => by injection e with e; omega)).trans HA.out
  obtain ⟨x,hx,e0⟩:=ds_cell hA2 k2 (by omega)
  have hk25 : (k2 : Int) < 5:=hk2
  have HK3:=Lib.hid (HK2.out.trans hk3)
  have HC3:=Lib.hid hc3
  have HG:=Lib.hid (gnode_any 2 0 x _ [] [] w2 (by omega) (by omega) (fun h => by unfold NestP at h; omega) (KSl.nil w2) rfl (fun i h => by cases h) (by simp) (by simp))
  simp only [List.sum_nil,Nat.add_zero] at HG
  clear hc3 hk3 HNX HC2 HK2 hA2 HA
  go_wp2_with fail
  ((with_reducible refine HG.out.mono ?_))
  rintro e w3 ⟨v,rfl,hv,hb⟩
  have HV:=Lib.hid ((hv.base (B':=w.heap.size) HK3.out.size).more (M:=dataN d) (by have:=HPOS.out; omega))
  have HC4:=Lib.hid (HC3.out.keep hb)
  have HK4:=Lib.hid (HK3.out.trans (Keep.of hb))
  clear hv hb
  go_wp2_with fail
  go_ret
  exact ⟨_,rfl,HV.out,HC4.out,HK4.out⟩
 have t1 : ((k : Int) == 1) = false:=by rw [beq_eq_false_iff_ne]; omega
 by_cases c2 : k = 2
 ·subst c2
  have HNX:=Lib.hid (next_any C 4 w1 HC1.out (by omega) (by omega))
  go_wp2_with fail
  ((with_reducible refine HNX.out.mono ?_))
  rintro e w2 ⟨k2,rfl,hk2,hc3,hk3⟩
  have HK3:=Lib.hid (HK1.out.trans hk3)
  have HC3:=Lib.hid hc3
  clear hc3 hk3 HNX
  go_wp2_with fail
  go_loopw [5,6] (fun x i wr => ∃ (v : Value) (vs : List Value) (q : Nat),v = x ∧ i = .int .i64 q ∧ q + vs.length ≤ 3 ∧ Hid (KRow wr w.heap.size v vs) ∧ Hid (NVs wr 1 vs) ∧ Hid (CSt wr C) ∧ Hid (Keep C w wr)) (fun _ i _ => (intOf i).toNat)
  case atStart => exact ⟨_,[],k2,rfl,rfl,by simp; omega,Lib.hid (KRow.nil _ _),Lib.hid (NVs.nil _ _),HC3,HK3⟩
  case round =>
   clear HC3 HK3
   obtain ⟨v,vs,q,rfl,rfl,hq,HR,HV,HC,HK⟩:=hrel
   obtain ⟨w3,rfl⟩ : ∃ y : World,y = wr:=⟨_,rfl⟩
   by_cases hq0 : 0 < q
   ·have hq1 : (0 : Int) < (q : Int):=by omega
    have HNY:=Lib.hid (next_any C 256 w3 HC.out (by omega) (by omega))
    go_wp2_with fail
    ((with_reducible refine HNY.out.mono ?_))
    rintro e w4 ⟨k4,rfl,hk4,hc4,hkk4⟩
    have HR4:=Lib.hid (HR.out.keep HC.out hkk4)
    have HV4:=Lib.hid (HV.out.keep HC.out hkk4)
    have HK4:=Lib.hid (HK.out.trans hkk4)
    have HC4:=Lib.hid hc4
    have HIN:=Lib.hid (gInt_any k4 w4 (by omega))
    have hk4' : (k4 : Int) < 256:=hk4
    clear hc4 hkk4 HR HV HK HC HNY
    go_wp2_with fail
    ((with_reducible refine HIN.out.mono ?_))
    rintro e w5 ⟨v5,rfl,hv5,hb5⟩
    obtain ⟨a5,n5,c5,rfl⟩:=hv5.form
    have HR5:=Lib.hid (HR4.out.below hb5)
    have HV5:=Lib.hid (HV4.out.below hb5)
    have HC5:=Lib.hid (HC4.out.keep hb5)
    have HK5:=Lib.hid (HK4.out.trans (Keep.of hb5))
    have HT5:=Lib.hid hv5
    clear hv5 hb5 HR4 HV4 HC4 HK4
    have hal : Below w5.heap.size w5 (w5.alloc (.cells #[.slice a5 n5 c5] 24)):=(Below.refl _ _).alloc (Nat.le_refl _) _
    have HR6:=Lib.hid (HR5.out.below hal)
    have HV6:=Lib.hid ((HV5.out.below hal).snoc ((HT5.out.below hal).base (Nat.zero_le _)))
    have HC6:=Lib.hid (HC5.out.keep hal)
    have HK6:=Lib.hid (HK5.out.trans (Keep.of hal))
    have HNN : Hid ((w5.alloc (.cells #[.slice a5 n5 c5] 24)).heap[w5.heap.size]? = some (.cells #[.slice a5 n5 c5] 24 (0,0))):=Lib.hid (heap_alloc_new _ _)
    have hone:=HT5.out.one
    clear HR5 HV5 HC5 HK5 hal
    go_wp2_with (at_builtin; refine wpList_append_kid rfl _ _ rfl w.heap.size v vs rfl HR6.out w5.heap.size (.slice a5 n5 c5) hone rfl HNN.out (by omega) HK6.out.size ?_; intro v7 w7 ho hg; have HO:=Lib.hid ho; have HG7:=Lib.hid hg; clear ho hg)
    have HV7:=Lib.hid (HV6.out.grownRow HR6.out HG7.out)
    have HC7:=Lib.hid (HC6.out.grown HG7.out (fun g h => by have:=own_row HR6.out h; have:=HCW.out.lt; omega))
    have HK7:=Lib.hid (HK6.out.grown HG7.out (fun g h => own_row HR6.out h))
    clear HR6 HV6 HC6 HK6 HNN HG7 hone HT5
    go_wp2_with fail
    go_roundw
    case rel => first | exact ⟨vs ++ [.slice a5 n5 c5],q - 1,by go_num,by rw [List.length_append,List.length_singleton]; omega,HO,HV7,HC7,HK7⟩ | exact ⟨_,vs ++ [.slice a5 n5 c5],q - 1,rfl,by go_num,by rw [List.length_append,List.length_singleton]; omega,HO,HV7,HC7,HK7⟩
    case measure => simp [intOf]; omega
   ·have hq1 : ¬ (0 : Int) < (q : Int):=by omega
    have hqz : q = 0:=by omega
    obtain ⟨a,cp,rfl⟩:=HR.out.form
    have HNY:=Lib.hid (next_any C 3 w3 HC.out (by omega) (by omega))
    have HKF:=Lib.hid (HR.out)
    go_wp2_with fail
    ((with_reducible refine HNY.out.mono ?_))
    rintro e w4 ⟨k4,rfl,hk4,hc4,hkk4⟩
    have HR4:=Lib.hid (HR.out.keep HC.out hkk4)
    have HV4:=Lib.hid (HV.out.keep HC.out hkk4)
    have HK4:=Lib.hid (HK.out.trans hkk4)
    have HC4:=Lib.hid hc4
    have HIN:=Lib.hid (gInt_any ((vs.length : Int) + k4) w4 (by omega))
    have hk4' : (k4 : Int) < 3:=hk4
    clear hc4 hkk4 HR HV HK HC HNY HKF
    go_wp2_with fail
    ((with_reducible refine HIN.out.mono ?_))
    rintro e w5 ⟨v5,rfl,hv5,hb5⟩
    obtain ⟨a5,n5,c5,rfl⟩:=hv5.form
    have HKN:=Lib.hid (kNode_any 4 _ vs (List.replicate vs.length 1) w5 (fun h => by unfold NestP at h; omega) (HR4.out.below hb5).sl (by simp) (HV4.out.below hb5).each (by omega) (by rw [sum_rep]; omega))
    rw [sum_rep] at HKN
    have HC5:=Lib.hid (HC4.out.keep hb5)
    have HK5:=Lib.hid (HK4.out.trans (Keep.of hb5))
    have HT5:=Lib.hid hv5
    clear hv5 hb5 HR4 HV4 HC4 HK4 HIN
    go_wp2_with fail
    ((with_reducible refine HKN.out.mono ?_))
    rintro e w6 ⟨v6,rfl,hv6,hb6⟩
    obtain ⟨a6,n6,c6,rfl⟩:=hv6.form
    have HT56:=Lib.hid (HT5.out.below hb6)
    have HC6:=Lib.hid (HC5.out.keep hb6)
    have HK6:=Lib.hid (HK5.out.trans (Keep.of hb6))
    have hal : Below w6.heap.size w6 (w6.alloc (.cells #[.slice a5 n5 c5,.slice a6 n6 c6] 24)):=(Below.refl _ _).alloc (Nat.le_refl _) _
    have HT57:=Lib.hid ((HT56.out.below hal).base (B':=0) (Nat.zero_le _))
    have HT67:=Lib.hid ((hv6.below hal).base (B':=0) (Nat.zero_le _))
    have HC7:=Lib.hid (HC6.out.keep hal)
    have HK7:=Lib.hid (HK6.out.trans (Keep.of hal))
    have HKL:=Lib.hid (KSl.lit w6 [.slice a5 n5 c5,.slice a6 n6 c6] 2 rfl)
    have HN2:=Lib.hid (kNode_any 50 _ [.slice a5 n5 c5,.slice a6 n6 c6] [1,1 + vs.length * 1] (w6.alloc (.cells #[.slice a5 n5 c5,.slice a6 n6 c6] 24)) (fun h => by unfold NestP at h; omega) HKL.out rfl (fun i h1 h2 => by
     match i,h1 with
     | 0,_ => exact HT57.out
     | 1,_ => exact HT67.out) (by simp) (by simp only [List.sum_cons,List.sum_nil]; omega))
    clear hv6 hb6 HC5 HK5 HT5 HT56 HC6 HK6 hal HKL HKN
    go_wp2_with fail
    ((with_reducible refine HN2.out.mono ?_))
    rintro e w8 ⟨v8,rfl,hv8,hb8⟩
    have HV8:=Lib.hid ((hv8.base (B':=w.heap.size) HK7.out.size).more (M:=dataN d) (by simp only [List.sum_cons,List.sum_nil]; have:=HPOS.out; omega))
    have HC8:=Lib.hid (HC7.out.keep hb8)
    have HK8:=Lib.hid (HK7.out.trans (Keep.of hb8))
    clear hv8 hb8
    go_wp2_with fail
    go_ret
    exact ⟨_,rfl,HV8.out,HC8.out,HK8.out⟩
 have t2 : ((k : Int) == 2) = false:=by rw [beq_eq_false_iff_ne]; omega
 have HNU:=Lib.hid (gnumber_any C w1 HC1.out)
 by_cases c3 : k = 3
 ·subst c3
  cases d with
  | zero =>
    go_wp2_with fail
    ((with_reducible refine HNU.out.mono ?_))
    rintro e w2 ⟨nu,rfl,hnu,hc2,hk2⟩
    have HC2:=Lib.hid hc2
    have HK2:=Lib.hid (HK1.out.trans hk2)
    have HIN:=Lib.hid (gInt_any nu w2 hnu)
    clear hc2 hk2 HNU
    go_wp2_with fail
    ((with_reducible refine HIN.out.mono ?_))
    rintro e w3 ⟨v3,rfl,hv3,hb3⟩
    have HV3:=Lib.hid ((hv3.base (B':=w.heap.size) HK2.out.size).more (M:=dataN 0) (by have:=HPOS.out; omega))
    have HC3:=Lib.hid (HC2.out.keep hb3)
    have HK3:=Lib.hid (HK2.out.trans (Keep.of hb3))
    clear hv3 hb3
    go_wp2_with fail
    go_ret
    exact ⟨_,rfl,HV3.out,HC3.out,HK3.out⟩
  | succ d' =>
    have hd0 : (0 : Int) < ((d' + 1 : Nat) : Int):=by omega
    obtain ⟨K,hKe⟩ : ∃ K,dataN d' = K:=⟨_,rfl⟩
    have hK6 : 6 ≤ K:=by rw [← hKe]; exact dataN_pos d'
    have hK3 : K ≤ 3000:=by rw [← hKe]; exact dataN_le d' (by omega)
    have HDK : Hid (dataN (d' + 1) = 3 + 3 * K):=Lib.hid (by rw [← hKe] <;> rfl)
    have HDA:=Lib.hid (IH.out d' rfl)
    have HKE:=Lib.hid hKe
    unfold DataOk at HDA
    rw [hKe] at HDA
    clear hKe HNU
    have HNX:=Lib.hid (next_any C 4 w1 HC1.out (by omega) (by omega))
    go_wp2_with fail
    ((with_reducible refine HNX.out.mono ?_))
    rintro e w2 ⟨k2,rfl,hk2,hc3,hk3⟩
    have HK3:=Lib.hid (HK1.out.trans hk3)
    have HC3:=Lib.hid hc3
    clear hc3 hk3 HNX
    go_wp2_with fail
    go_loopw [7,8] (fun x i wr => ∃ (v : Value) (vs : List Value) (q : Nat),v = x ∧ i = .int .i64 q ∧ q + vs.length ≤ 3 ∧ Hid (KRow wr w.heap.size v vs) ∧ Hid (NVs wr K vs) ∧ Hid (CSt wr C) ∧ Hid (Keep C w wr)) (fun _ i _ => (intOf i).toNat)
    case atStart => exact ⟨_,[],k2,rfl,rfl,by simp; omega,Lib.hid (KRow.nil _ _),Lib.hid (NVs.nil _ _),HC3,HK3⟩
    case round =>
     clear HC3 HK3
     obtain ⟨v,vs,q,rfl,rfl,hq,HR,HV,HC,HK⟩:=hrel
     obtain ⟨w3,rfl⟩ : ∃ y : World,y = wr:=⟨_,rfl⟩
     by_cases hq0 : 0 < q
     ·have hq1 : (0 : Int) < (q : Int):=by omega
      have HNY:=Lib.hid (next_any C 3 w3 HC.out (by omega) (by omega))
      go_wp2_with fail
      ((with_reducible refine HNY.out.mono ?_))
      rintro e w4 ⟨k4,rfl,hk4,hc4,hkk4⟩
      have HR4:=Lib.hid (HR.out.keep HC.out hkk4)
      have HV4:=Lib.hid (HV.out.keep HC.out hkk4)
      have HK4:=Lib.hid (HK.out.trans hkk4)
      have HC4:=Lib.hid hc4
      clear hc4 hkk4 HR HV HK HC HNY
      cases h2 : (k4 : Int) == 2 with
      | true =>
        have HNM:=Lib.hid (gname_any C w4 HC4.out)
        go_wp2_with fail
        ((with_reducible refine HNM.out.mono ?_))
        rintro e wn ⟨sn,rfl,hsn,hcn,hkn⟩
        have HRn:=Lib.hid (HR4.out.keep HC4.out hkn)
        have HVn:=Lib.hid (HV4.out.keep HC4.out hkn)
        have HKn:=Lib.hid (HK4.out.trans hkn)
        have HCn:=Lib.hid hcn
        have HNO:=Lib.hid (nameOf_any sn wn (by omega))
        clear hcn hkn HR4 HV4 HK4 HC4 HNM
        go_wp2_with fail
        ((with_reducible refine HNO.out.mono ?_))
        rintro e w5 ⟨v5,rfl,hv51,hb5⟩
        have hv5:=hv51.more (M:=K) (by omega)
        clear hv51
        have hk5 : Keep C wn w5:=Keep.of hb5
        have hc5:=HCn.out.keep hb5
        obtain ⟨a5,n5,c5,rfl⟩:=hv5.form
        have HR5:=Lib.hid (HRn.out.keep HCn.out hk5)
        have HV5:=Lib.hid (HVn.out.keep HCn.out hk5)
        have HC5:=Lib.hid hc5
        have HK5:=Lib.hid (HKn.out.trans hk5)
        have HT5:=Lib.hid hv5
        clear hv5 hc5 hk5 HRn HVn HCn HKn
        have hal : Below w5.heap.size w5 (w5.alloc (.cells #[.slice a5 n5 c5] 24)):=(Below.refl _ _).alloc (Nat.le_refl _) _
        have HR6:=Lib.hid (HR5.out.below hal)
        have HV6:=Lib.hid ((HV5.out.below hal).snoc ((HT5.out.below hal).base (Nat.zero_le _)))
        have HC6:=Lib.hid (HC5.out.keep hal)
        have HK6:=Lib.hid (HK5.out.trans (Keep.of hal))
        have HNN : Hid ((w5.alloc (.cells #[.slice a5 n5 c5] 24)).heap[w5.heap.size]? = some (.cells #[.slice a5 n5 c5] 24 (0,0))):=Lib.hid (heap_alloc_new _ _)
        have hone:=HT5.out.one
        clear HR5 HV5 HC5 HK5 hal
        go_wp2_with (at_builtin; refine wpList_append_kid rfl _ _ rfl w.heap.size v vs rfl HR6.out w5.heap.size (.slice a5 n5 c5) hone rfl HNN.out (by omega) HK6.out.size ?_; intro v7 w7 ho hg; have HO:=Lib.hid ho; have HG7:=Lib.hid hg; clear ho hg)
        have HV7:=Lib.hid (HV6.out.grownRow HR6.out HG7.out)
        have HC7:=Lib.hid (HC6.out.grown HG7.out (fun g h => by have:=own_row HR6.out h; have:=HCW.out.lt; omega))
        have HK7:=Lib.hid (HK6.out.grown HG7.out (fun g h => own_row HR6.out h))
        clear HR6 HV6 HC6 HK6 HNN HG7 hone HT5
        go_wp2_with fail
        go_roundw
        case rel => first | exact ⟨vs ++ [.slice a5 n5 c5],q - 1,by go_num,by rw [List.length_append,List.length_singleton]; omega,HO,HV7,HC7,HK7⟩ | exact ⟨_,vs ++ [.slice a5 n5 c5],q - 1,rfl,by go_num,by rw [List.length_append,List.length_singleton]; omega,HO,HV7,HC7,HK7⟩
        case measure => simp [intOf]; omega
      | false =>
        have HDD:=Lib.hid (HDA.out w4 HC4.out)
        unfold GPost at HDD
        have hdd : ((d' + 1 : Nat) : Int) - 1 = (d' : Int):=by omega
        go_wp2_with fail
        ((with_reducible refine HDD.out.mono ?_))
        rintro e w5 ⟨v5,rfl,hv5,hc5,hk5⟩
        obtain ⟨a5,n5,c5,rfl⟩:=hv5.form
        have HR5:=Lib.hid (HR4.out.keep HC4.out hk5)
        have HV5:=Lib.hid (HV4.out.keep HC4.out hk5)
        have HC5:=Lib.hid hc5
        have HK5:=Lib.hid (HK4.out.trans hk5)
        have HT5:=Lib.hid hv5
        clear hv5 hc5 hk5 HR4 HV4 HC4 HK4
        have hal : Below w5.heap.size w5 (w5.alloc (.cells #[.slice a5 n5 c5] 24)):=(Below.refl _ _).alloc (Nat.le_refl _) _
        have HR6:=Lib.hid (HR5.out.below hal)
        have HV6:=Lib.hid ((HV5.out.below hal).snoc ((HT5.out.below hal).base (Nat.zero_le _)))
        have HC6:=Lib.hid (HC5.out.keep hal)
        have HK6:=Lib.hid (HK5.out.trans (Keep.of hal))
        have HNN : Hid ((w5.alloc (.cells #[.slice a5 n5 c5] 24)).heap[w5.heap.size]? = some (.cells #[.slice a5 n5 c5] 24 (0,0))):=Lib.hid (heap_alloc_new _ _)
        have hone:=HT5.out.one
        clear HR5 HV5 HC5 HK5 hal
        go_wp2_with (at_builtin; refine wpList_append_kid rfl _ _ rfl w.heap.size v vs rfl HR6.out w5.heap.size (.slice a5 n5 c5) hone rfl HNN.out (by omega) HK6.out.size ?_; intro v7 w7 ho hg; have HO:=Lib.hid ho; have HG7:=Lib.hid hg; clear ho hg)
        have HV7:=Lib.hid (HV6.out.grownRow HR6.out HG7.out)
        have HC7:=Lib.hid (HC6.out.grown HG7.out (fun g h => by have:=own_row HR6.out h; have:=HCW.out.lt; omega))
        have HK7:=Lib.hid (HK6.out.grown HG7.out (fun g h => own_row HR6.out h))
        clear HR6 HV6 HC6 HK6 HNN HG7 hone HT5
        go_wp2_with fail
        go_roundw
        case rel => first | exact ⟨vs ++ [.slice a5 n5 c5],q - 1,by go_num,by rw [List.length_append,List.length_singleton]; omega,HO,HV7,HC7,HK7⟩ | exact ⟨_,vs ++ [.slice a5 n5 c5],q - 1,rfl,by go_num,by rw [List.length_append,List.length_singleton]; omega,HO,HV7,HC7,HK7⟩
        case measure => simp [intOf]; omega
     ·have hq1 : ¬ (0 : Int) < (q : Int):=by omega
      have hqz : q = 0:=by omega
      have HMUL : Hid (vs.length * K ≤ 3 * K):=Lib.hid (Nat.mul_le_mul_right K (by omega))
      obtain ⟨a,cp,rfl⟩:=HR.out.form
      have HNY:=Lib.hid (next_any C 3 w3 HC.out (by omega) (by omega))
      have HKF:=Lib.hid (HR.out)
      go_wp2_with fail
      ((with_reducible refine HNY.out.mono ?_))
      rintro e w4 ⟨k4,rfl,hk4,hc4,hkk4⟩
      have HR4:=Lib.hid (HR.out.keep HC.out hkk4)
      have HV4:=Lib.hid (HV.out.keep HC.out hkk4)
      have HK4:=Lib.hid (HK.out.trans hkk4)
      have HC4:=Lib.hid hc4
      have HIN:=Lib.hid (gInt_any ((vs.length : Int) + k4) w4 (by omega))
      have hk4' : (k4 : Int) < 3:=hk4
      clear hc4 hkk4 HR HV HK HC HNY HKF
      go_wp2_with fail
      ((with_reducible refine HIN.out.mono ?_))
      rintro e w5 ⟨v5,rfl,hv5,hb5⟩
      obtain ⟨a5,n5,c5,rfl⟩:=hv5.form
      have HKN:=Lib.hid (kNode_any 4 _ vs (List.replicate vs.length K) w5 (fun h => by unfold NestP at h; omega) (HR4.out.below hb5).sl (by simp) (HV4.out.below hb5).each (by omega) (by rw [sum_rep]; (have:=HMUL.out; omega)))
      rw [sum_rep] at HKN
      have HC5:=Lib.hid (HC4.out.keep hb5)
      have HK5:=Lib.hid (HK4.out.trans (Keep.of hb5))
      have HT5:=Lib.hid hv5
      clear hv5 hb5 HR4 HV4 HC4 HK4 HIN
      go_wp2_with fail
      ((with_reducible refine HKN.out.mono ?_))
      rintro e w6 ⟨v6,rfl,hv6,hb6⟩
      obtain ⟨a6,n6,c6,rfl⟩:=hv6.form
      have HT56:=Lib.hid (HT5.out.below hb6)
      have HC6:=Lib.hid (HC5.out.keep hb6)
      have HK6:=Lib.hid (HK5.out.trans (Keep.of hb6))
      have hal : Below w6.heap.size w6 (w6.alloc (.cells #[.slice a5 n5 c5,.slice a6 n6 c6] 24)):=(Below.refl _ _).alloc (Nat.le_refl _) _
      have HT57:=Lib.hid ((HT56.out.below hal).base (B':=0) (Nat.zero_le _))
      have HT67:=Lib.hid ((hv6.below hal).base (B':=0) (Nat.zero_le _))
      have HC7:=Lib.hid (HC6.out.keep hal)
      have HK7:=Lib.hid (HK6.out.trans (Keep.of hal))
      have HKL:=Lib.hid (KSl.lit w6 [.slice a5 n5 c5,.slice a6 n6 c6] 2 rfl)
      have HN2:=Lib.hid (kNode_any 51 _ [.slice a5 n5 c5,.slice a6 n6 c6] [1,1 + vs.length * K] (w6.alloc (.cells #[.slice a5 n5 c5,.slice a6 n6 c6] 24)) (fun h => by unfold NestP at h; omega) HKL.out rfl (fun i h1 h2 => by
       match i,h1 with
       | 0,_ => exact HT57.out
       | 1,_ => exact HT67.out) (by simp) (by simp only [List.sum_cons,List.sum_nil]; (have:=HMUL.out; omega)))
      clear hv6 hb6 HC5 HK5 HT5 HT56 HC6 HK6 hal HKL HKN
      go_wp2_with fail
      ((with_reducible refine HN2.out.mono ?_))
      rintro e w8 ⟨v8,rfl,hv8,hb8⟩
      have HV8:=Lib.hid ((hv8.base (B':=w.heap.size) HK7.out.size).more (M:=dataN (d' + 1)) (by simp only [List.sum_cons,List.sum_nil]; have:=HMUL.out; have:=HDK.out; omega))
      have HC8:=Lib.hid (HC7.out.keep hb8)
      have HK8:=Lib.hid (HK7.out.trans (Keep.of hb8))
      clear hv8 hb8
      go_wp2_with fail
      go_ret
      exact ⟨_,rfl,HV8.out,HC8.out,HK8.out⟩
 have t3 : ((k : Int) == 3) = false:=by rw [beq_eq_false_iff_ne]; omega
 go_wp2_with fail
 ((with_reducible refine HNU.out.mono ?_))
 rintro e w2 ⟨nu,rfl,hnu,hc2,hk2⟩
 have HC2:=Lib.hid hc2
 have HK2:=Lib.hid (HK1.out.trans hk2)
 have HIN:=Lib.hid (gInt_any nu w2 hnu)
 clear hc2 hk2 HNU
 go_wp2_with fail
 ((with_reducible refine HIN.out.mono ?_))
 rintro e w3 ⟨v3,rfl,hv3,hb3⟩
 have HV3:=Lib.hid ((hv3.base (B':=w.heap.size) HK2.out.size).more (M:=dataN d) (by have:=HPOS.out; omega))
 have HC3:=Lib.hid (HC2.out.keep hb3)
 have HK3:=Lib.hid (HK2.out.trans (Keep.of hb3))
 clear hv3 hb3
 go_wp2_with fail
 go_ret
 exact ⟨_,rfl,HV3.out,HC3.out,HK3.out⟩
theorem data_ok (C : Nat) : ∀ d,d ≤ 5 → DataOk C d
 | 0,h => data_step C 0 h (fun d' e => by omega)
 | d + 1,h => data_step C (d + 1) h (fun d' e => by
   have e2 : d = d':=by omega
   subst e2
   exact data_ok C d (by omega))
end
section
open Go.RowKit
attribute [local go_sem] ByteArray.mk_append_mk bs_get bs_cut bs_end
def ExprOk (C : Nat) (dep : Int) (N : Nat) : Prop:=∀ (a : Int) (w : World),0 ≤ a → a ≤ 7 → CSt w C → Calls Tryz.prog 192 #[.pointer (some ⟨C,0,none⟩),.int .i64 dep,.int .i64 a] w (GPost C N w)
def TargetOk (C : Nat) (dep : Int) (N : Nat) : Prop:=∀ (a : Int) (w : World),0 ≤ a → a ≤ 7 → CSt w C → Calls Tryz.prog 195 #[.pointer (some ⟨C,0,none⟩),.int .i64 dep,.int .i64 a] w (GPost C N w)
set_option maxRecDepth 100000 in
set_option maxHeartbeats 8000000 in
theorem target_step (C : Nat) (dep : Int) (E N : Nat) (hd : -10 ≤ dep ∧ dep ≤ 10) (hE : E ≤ 1000) (hN : 1 ≤ N) (ih : 0 < dep → ExprOk C (dep - 1) E ∧ 1 + 2 * E ≤ N) : TargetOk C dep N:=by
 intro a w ha0 ha7 hc
 have IH:=Lib.hid ih
 have HN:=Lib.hid (next_any C 5 w hc (by omega) (by omega))
 clear hc ih
 go_enter Tryz.func195,Tryz.ntmps195
 go_wp2_with fail
 ((with_reducible refine HN.out.mono ?_))
 rintro e w1 ⟨k,rfl,hk,hc1,hk1⟩
 have HC1:=Lib.hid hc1
 have HK1:=Lib.hid hk1
 clear hc1 hk1 HN
 by_cases c1 : k = 1
 ·subst c1
  have HF1x:=Lib.hid (gname_any C w1 HC1.out)
  go_wp2_with fail
  ((with_reducible refine HF1x.out.mono ?_))
  rintro e w1x ⟨sn,rfl,hsn,hcc1,hkk1⟩
  have HK1x:=Lib.hid (HK1.out.trans hkk1)
  have HC1x:=Lib.hid hcc1
  clear hcc1 hkk1 HF1x
  have HF2x:=Lib.hid (nameOf_any sn w1x (by omega))
  go_wp2_with fail
  ((with_reducible refine HF2x.out.mono ?_))
  rintro e w2x ⟨v2x,rfl,hvv2,hbb2⟩
  have HK2x:=Lib.hid (HK1x.out.trans (Keep.of hbb2))
  have HC2x:=Lib.hid (HC1x.out.keep hbb2)
  have HVF:=Lib.hid ((hvv2.base (B':=w.heap.size) HK1x.out.size).more (M:=N) (by first | (simp only [List.sum_cons,List.sum_nil]; omega) | (omega)))
  clear hvv2 hbb2
  go_wp2_with fail
  go_ret
  exact ⟨_,rfl,HVF.out,HC2x.out,HK2x.out⟩
 have t1 : ((k : Int) == 1) = false:=by rw [beq_eq_false_iff_ne]; omega
 by_cases c2 : k = 2 ∧ 0 < a
 ·obtain ⟨rfl,hap⟩:=c2
  have HF1x:=Lib.hid (next_any C a w1 HC1.out (by omega) (by omega))
  go_wp2_with fail
  ((with_reducible refine HF1x.out.mono ?_))
  rintro e w1x ⟨kn,rfl,hkn,hcc1,hkk1⟩
  have hkn' : (kn : Int) < a:=hkn
  have HK1x:=Lib.hid (HK1.out.trans hkk1)
  have HC1x:=Lib.hid hcc1
  clear hcc1 hkk1 HF1x
  have HF2x:=Lib.hid (gnode_any 7 kn [] _ [] [] w1x (by simp) (by omega) (fun h => by unfold NestP at h; omega) (KSl.nil _) rfl (fun i h => by cases h) (by simp) (by simp))
  go_wp2_with fail
  ((with_reducible refine HF2x.out.mono ?_))
  rintro e w2x ⟨v2x,rfl,hvv2,hbb2⟩
  have HK2x:=Lib.hid (HK1x.out.trans (Keep.of hbb2))
  have HC2x:=Lib.hid (HC1x.out.keep hbb2)
  have HVF:=Lib.hid ((hvv2.base (B':=w.heap.size) HK1x.out.size).more (M:=N) (by first | (simp only [List.sum_cons,List.sum_nil]; omega) | (omega)))
  clear hvv2 hbb2
  go_wp2_with fail
  go_ret
  exact ⟨_,rfl,HVF.out,HC2x.out,HK2x.out⟩
 by_cases c3 : k = 3 ∧ 0 < dep
 ·obtain ⟨rfl,hdp⟩:=c3
  obtain ⟨ihe,hEN⟩:=IH.out hdp
  have HE:=Lib.hid ihe
  unfold ExprOk at HE
  clear ihe
  have HF1x:=Lib.hid (HE.out a w1 ha0 ha7 HC1.out)
  unfold GPost at HF1x
  go_wp2_with fail
  ((with_reducible refine HF1x.out.mono ?_))
  rintro e w1x ⟨v1x,rfl,hvv1,hcc1,hkk1⟩
  obtain ⟨a1x,n1x,c1x,rfl⟩:=hvv1.form
  have HK1x:=Lib.hid (HK1.out.trans hkk1)
  have HC1x:=Lib.hid hcc1
  have HT1x:=Lib.hid (hvv1.base (B':=0) (Nat.zero_le _))
  clear hvv1 hcc1 hkk1 HF1x
  have HF2x:=Lib.hid (HE.out a w1x ha0 ha7 HC1x.out)
  unfold GPost at HF2x
  go_wp2_with fail
  ((with_reducible refine HF2x.out.mono ?_))
  rintro e w2x ⟨v2x,rfl,hvv2,hcc2,hkk2⟩
  obtain ⟨a2x,n2x,c2x,rfl⟩:=hvv2.form
  have HT1xq2:=Lib.hid (HT1x.out.keep HC1x.out hkk2)
  have HK2x:=Lib.hid (HK1x.out.trans hkk2)
  have HC2x:=Lib.hid hcc2
  have HT2x:=Lib.hid (hvv2.base (B':=0) (Nat.zero_le _))
  clear hvv2 hcc2 hkk2 HF2x
  have hal3 : Below w2x.heap.size w2x (w2x.alloc (.cells #[.slice a1x n1x c1x,.slice a2x n2x c2x] 24)):=(Below.refl _ _).alloc (Nat.le_refl _) _
  have HKL3:=Lib.hid (KSl.lit w2x [.slice a1x n1x c1x,.slice a2x n2x c2x] 2 rfl)
  have HT1xq2z:=Lib.hid (HT1xq2.out.below hal3)
  have HT2xz:=Lib.hid (HT2x.out.below hal3)
  have HCz3:=Lib.hid (HC2x.out.keep hal3)
  have HKz3:=Lib.hid (HK2x.out.trans (Keep.of hal3))
  have HF3x:=Lib.hid (kNode_any 76 _ [.slice a1x n1x c1x,.slice a2x n2x c2x] [E,E] (w2x.alloc (.cells #[.slice a1x n1x c1x,.slice a2x n2x c2x] 24)) (fun h => by unfold NestP at h; omega) HKL3.out rfl (fun i h1 h2 => by
   match i,h1 with
   | 0,_ => exact HT1xq2z.out
   | 1,_ => exact HT2xz.out) (by simp) (by simp only [List.sum_cons,List.sum_nil]; omega))
  go_wp2_with fail
  ((with_reducible refine HF3x.out.mono ?_))
  rintro e w3x ⟨v3x,rfl,hvv3,hbb3⟩
  have HK3x:=Lib.hid (HKz3.out.trans (Keep.of hbb3))
  have HC3x:=Lib.hid (HCz3.out.keep hbb3)
  have HVF:=Lib.hid ((hvv3.base (B':=w.heap.size) HKz3.out.size).more (M:=N) (by first | (simp only [List.sum_cons,List.sum_nil]; omega) | (omega)))
  clear hvv3 hbb3
  go_wp2_with fail
  go_ret
  exact ⟨_,rfl,HVF.out,HC3x.out,HK3x.out⟩
 by_cases c4 : k = 4 ∧ 0 < dep
 ·obtain ⟨rfl,hdp⟩:=c4
  obtain ⟨ihe,hEN⟩:=IH.out hdp
  have HE:=Lib.hid ihe
  unfold ExprOk at HE
  clear ihe
  have HF1x:=Lib.hid (HE.out a w1 ha0 ha7 HC1.out)
  unfold GPost at HF1x
  go_wp2_with fail
  ((with_reducible refine HF1x.out.mono ?_))
  rintro e w1x ⟨v1x,rfl,hvv1,hcc1,hkk1⟩
  obtain ⟨a1x,n1x,c1x,rfl⟩:=hvv1.form
  have HK1x:=Lib.hid (HK1.out.trans hkk1)
  have HC1x:=Lib.hid hcc1
  have HT1x:=Lib.hid (hvv1.base (B':=0) (Nat.zero_le _))
  clear hvv1 hcc1 hkk1 HF1x
  have hal2 : Below w1x.heap.size w1x (w1x.alloc (.cells #[.slice a1x n1x c1x] 24)):=(Below.refl _ _).alloc (Nat.le_refl _) _
  have HKL2:=Lib.hid (KSl.lit w1x [.slice a1x n1x c1x] 1 rfl)
  have HT1xz:=Lib.hid (HT1x.out.below hal2)
  have HCz2:=Lib.hid (HC1x.out.keep hal2)
  have HKz2:=Lib.hid (HK1x.out.trans (Keep.of hal2))
  have HF2x:=Lib.hid (kNode_any 84 _ [.slice a1x n1x c1x] [E] (w1x.alloc (.cells #[.slice a1x n1x c1x] 24)) (fun h => by unfold NestP at h; omega) HKL2.out rfl (fun i h1 h2 => by
   match i,h1 with
   | 0,_ => exact HT1xz.out) (by simp) (by simp only [List.sum_cons,List.sum_nil]; omega))
  go_wp2_with fail
  ((with_reducible refine HF2x.out.mono ?_))
  rintro e w2x ⟨v2x,rfl,hvv2,hbb2⟩
  have HK2x:=Lib.hid (HKz2.out.trans (Keep.of hbb2))
  have HC2x:=Lib.hid (HCz2.out.keep hbb2)
  have HVF:=Lib.hid ((hvv2.base (B':=w.heap.size) HKz2.out.size).more (M:=N) (by first | (simp only [List.sum_cons,List.sum_nil]; omega) | (omega)))
  clear hvv2 hbb2
  go_wp2_with fail
  go_ret
  exact ⟨_,rfl,HVF.out,HC2x.out,HK2x.out⟩
 have hcs : k = 0 ∨ (k = 2 ∧ ¬ 0 < a) ∨ (k = 3 ∧ ¬ 0 < dep) ∨ (k = 4 ∧ ¬ 0 < dep):=by omega
 clear c1 c2 c3 c4 IH t1
 rcases hcs with rfl | ⟨rfl,hx⟩ | ⟨rfl,hx⟩ | ⟨rfl,hx⟩
 all_goals
  have HF1x:=Lib.hid (next_any C 3 w1 HC1.out (by omega) (by omega))
  go_wp2_with fail
  ((with_reducible refine HF1x.out.mono ?_))
  rintro e w1x ⟨kn,rfl,hkn,hcc1,hkk1⟩
  have hkn' : (kn : Int) < 3:=hkn
  have HK1x:=Lib.hid (HK1.out.trans hkk1)
  have HC1x:=Lib.hid hcc1
  clear hcc1 hkk1 HF1x
  have HF2x:=Lib.hid (gnode_any 6 kn [] _ [] [] w1x (by simp) (by omega) (fun h => by unfold NestP at h; omega) (KSl.nil _) rfl (fun i h => by cases h) (by simp) (by simp))
  go_wp2_with fail
  ((with_reducible refine HF2x.out.mono ?_))
  rintro e w2x ⟨v2x,rfl,hvv2,hbb2⟩
  have HK2x:=Lib.hid (HK1x.out.trans (Keep.of hbb2))
  have HC2x:=Lib.hid (HC1x.out.keep hbb2)
  have HVF:=Lib.hid ((hvv2.base (B':=w.heap.size) HK1x.out.size).more (M:=N) (by first | (simp only [List.sum_cons,List.sum_nil]; omega) | (omega)))
  clear hvv2 hbb2
  go_wp2_with fail
  go_ret
  exact ⟨_,rfl,HVF.out,HC2x.out,HK2x.out⟩
end
end Go.Proofs.YtoohondkpddmcaaGreatDoor
