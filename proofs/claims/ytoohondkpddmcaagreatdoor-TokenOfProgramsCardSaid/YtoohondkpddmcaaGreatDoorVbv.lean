/- Pl -/
import Derived.Test.YtoohondkpddmcaaGreatDoorVbu
set_option linter.unusedVariables false
set_option linter.unusedSimpArgs false
namespace Go.Proofs.YtoohondkpddmcaaGreatDoor
open Go.RowKit
attribute [local go_sem] ByteArray.mk_append_mk bs_get bs_cut bs_end
def SArg (C : Nat) (w : World) (v : Value) (l : List (List UInt8)) : Prop :=
 ∃ (a : Option Addr) (cap : Nat),v = .slice a l.length cap ∧ (l ≠ [] → ∃ b off,a = some ⟨b,off,none⟩ ∧ b ≠ C ∧ b < w.heap.size ∧ ∀ k (h : k < l.length),w.cell? ⟨b,off + k,none⟩ = some (strV l[k])) ∧ ∀ s ∈ l,s.length ≤ 6
theorem SArg.keep {C : Nat} {w w' : World} {v : Value} {l : List (List UInt8)} (h : SArg C w v l) (hk : Keep C w w') : SArg C w' v l:=by
 obtain ⟨a,cap,hv,hc,hs⟩:=h
 refine ⟨a,cap,hv,fun hn => ?_,hs⟩
 obtain ⟨b,off,ha,hb,hl,hcell⟩:=hc hn
 exact ⟨b,off,ha,hb,Nat.lt_of_lt_of_le hl hk.size,fun k hkl => (World.cell?_of_block (a:=⟨b,off + k,none⟩) (hk.block b hl (fun e => by injection e with e; exact hb e))).trans (hcell k hkl)⟩
theorem SArg.lit (C : Nat) (w : World) (l : List (List UInt8)) (n : Nat) (hn : n = l.length) (hs : ∀ s ∈ l,s.length ≤ 6) (hC : C < w.heap.size) : SArg C (w.alloc (.cells (l.map strV).toArray 9)) (.slice (some ⟨w.heap.size,0,none⟩) n n) l:=by
 subst hn
 refine ⟨_,_,rfl,fun _ => ⟨_,0,rfl,by omega,lt_of_block (heap_alloc_new w _),fun i hi => ?_⟩,hs⟩
 rw [cell_of_row _ _ _ _ _ (0,0) (heap_alloc_new w (.cells (l.map strV).toArray 9)),Nat.zero_add]
 simp [hi]
theorem shl_pos (k : Nat) (h : k ≤ 3) : (0 : Int) ≤ IntKind.u64.wrap (2 ^ k) ∧ IntKind.u64.wrap (2 ^ k) ≤ 18446744073709551615:=by
 match k,h with
 | 0,_ => exact (by decide)
 | 1,_ => exact (by decide)
 | 2,_ => exact (by decide)
 | 3,_ => exact (by decide)
set_option maxRecDepth 100000 in
set_option maxHeartbeats 16000000 in
theorem gfields_any (C : Nat) (l : List (List UInt8)) (nm : Value) (ix : Bool) (wd : Nat) (w : World) (hc : CSt w C) (hsa : SArg C w nm l) (hl : l.length ≤ 2) (hwd : wd ≤ 2) :
  Calls Tryz.prog 45 #[.pointer (some ⟨C,0,none⟩),nm,.bool ix,.int .i64 wd] w (GPost C 20 w):=by
 have HSA:=Lib.hid hsa
 have HCW:=Lib.hid hc
 have HK0:=Lib.hid (Keep.refl C w)
 obtain ⟨a0,cap0,rfl,hcs,hss⟩:=hsa
 obtain ⟨M,hM⟩ : ∃ M,l.length = M:=⟨_,rfl⟩
 have HM:=Lib.hid hM
 rw [hM] at hl HSA
 rw [hM]
 clear hM hc hcs hss
 go_enter Tryz.func45,Tryz.ntmps45
 go_wp2_with fail
 go_loopw [9,10] (fun x i wr => ∃ (v : Value) (vs : List Value) (k : Nat),v = x ∧ i = .int .i64 k ∧ k ≤ M ∧ vs.length ≤ 2 * k ∧ Hid (KRow wr w.heap.size v vs) ∧ Hid (NVs wr 3 vs) ∧ Hid (CSt wr C) ∧ Hid (Keep C w wr)) (fun _ i _ => M - (intOf i).toNat)
 case atStart => exact ⟨_,[],0,rfl,rfl,by omega,by simp,Lib.hid (KRow.nil _ _),Lib.hid (NVs.nil _ _),HCW,HK0⟩
 case round =>
  clear HK0
  obtain ⟨v,vs,k,rfl,rfl,hkM,hvl,HR,HV,HC,HK⟩:=hrel
  obtain ⟨w3,rfl⟩ : ∃ y : World,y = wr:=⟨_,rfl⟩
  by_cases hlt : k < M
  ·have hlt' : (k : Int) < (M : Int):=by omega
   have HNY:=Lib.hid (next_any C 3 w3 HC.out (by omega) (by omega))
   go_wp2_with fail
   ((with_reducible refine HNY.out.mono ?_))
   rintro e w4 ⟨k4,rfl,hk4,hc4,hkk4⟩
   have HR4:=Lib.hid (HR.out.keep HC.out hkk4)
   have HV4:=Lib.hid (HV.out.keep HC.out hkk4)
   have HK4:=Lib.hid (HK.out.trans hkk4)
   have HC4:=Lib.hid hc4
   clear hc4 hkk4 HR HV HK HC HNY
   cases h2 : (k4 : Int) == 2 with
   | true =>
     have HF1x:=Lib.hid (next_any C 12 w4 HC4.out (by omega) (by omega))
     go_wp2_with fail
     ((with_reducible refine HF1x.out.mono ?_))
     rintro e w1x ⟨ka,rfl,hka,hcc1,hkk1⟩
     have hka' : (ka : Int) < 12:=hka
     have HRw1_0:=Lib.hid (HR4.out.keep HC4.out hkk1)
     have HVw1_0:=Lib.hid (HV4.out.keep HC4.out hkk1)
     clear HR4 HV4
     have HK1x:=Lib.hid (HK4.out.trans hkk1)
     have HC1x:=Lib.hid hcc1
     clear hcc1 hkk1 HF1x
     have HF2x:=Lib.hid (gInt_any ka w1x (by omega))
     go_wp2_with fail
     ((with_reducible refine HF2x.out.mono ?_))
     rintro e w2x ⟨v2x,rfl,hvv2,hbb2⟩
     obtain ⟨a2x,n2x,c2x,rfl⟩:=hvv2.form
     have HRw2_0:=Lib.hid (HRw1_0.out.below hbb2)
     have HVw2_0:=Lib.hid (HVw1_0.out.below hbb2)
     clear HRw1_0 HVw1_0
     have HK2x:=Lib.hid (HK1x.out.trans (Keep.of hbb2))
     have HC2x:=Lib.hid (HC1x.out.keep hbb2)
     have HT2x:=Lib.hid (hvv2.base (B':=0) (Nat.zero_le _))
     clear hvv2 hbb2 HF2x
     have hal3 : Below w2x.heap.size w2x (w2x.alloc (.cells #[.slice a2x n2x c2x] 24)):=(Below.refl _ _).alloc (Nat.le_refl _) _
     have HRa3_0:=Lib.hid (HRw2_0.out.below hal3)
     have HVa3_0:=Lib.hid (HVw2_0.out.below hal3)
     clear HRw2_0 HVw2_0
     have HKL3:=Lib.hid (KSl.lit w2x [.slice a2x n2x c2x] 1 rfl)
     have HT2xz:=Lib.hid (HT2x.out.below hal3)
     have HCz3:=Lib.hid (HC2x.out.keep hal3)
     have HKz3:=Lib.hid (HK2x.out.trans (Keep.of hal3))
     have HF3x:=Lib.hid (kNode_any 19 _ [.slice a2x n2x c2x] [1] (w2x.alloc (.cells #[.slice a2x n2x c2x] 24)) (fun h => by unfold NestP at h; omega) HKL3.out rfl (fun i h1 h2 => by
      match i,h1 with
      | 0,_ => exact HT2xz.out) (by simp) (by simp only [List.sum_cons,List.sum_nil]; omega))
     go_wp2_with fail
     ((with_reducible refine HF3x.out.mono ?_))
     rintro e w3x ⟨v3x,rfl,hvv3,hbb3⟩
     have HRw3_0:=Lib.hid (HRa3_0.out.below hbb3)
     have HVw3_0:=Lib.hid (HVa3_0.out.below hbb3)
     clear HRa3_0 HVa3_0
     have HK3x:=Lib.hid (HKz3.out.trans (Keep.of hbb3))
     have HC3x:=Lib.hid (HCz3.out.keep hbb3)
     obtain ⟨a3x,n3x,c3x,rfl⟩:=hvv3.form
     have HT3x:=Lib.hid (hvv3.base (B':=0) (Nat.zero_le _))
     clear hvv3 hbb3 HF3x hal3
     have hal4 : Below w3x.heap.size w3x (w3x.alloc (.cells #[.slice a3x n3x c3x] 24)):=(Below.refl _ _).alloc (Nat.le_refl _) _
     have hone4:=HT3x.out.one
     have HTb4:=Lib.hid (((HT3x.out.below hal4).base (B':=0) (Nat.zero_le _)).more (M:=3) (by first | (simp only [List.sum_cons,List.sum_nil]; omega) | omega))
     have HRb4_0:=Lib.hid (HRw3_0.out.below hal4)
     have HVb4_0:=Lib.hid (HVw3_0.out.below hal4)
     clear HRw3_0 HVw3_0
     have HCb4:=Lib.hid (HC3x.out.keep hal4)
     have HKb4:=Lib.hid (HK3x.out.trans (Keep.of hal4))
     have HNN4 : Hid ((w3x.alloc (.cells #[.slice a3x n3x c3x] 24)).heap[w3x.heap.size]? = some (.cells #[.slice a3x n3x c3x] 24 (0,0))):=Lib.hid (heap_alloc_new _ _)
     clear hal4
     go_wp2_with (at_builtin; refine wpList_append_kid rfl _ _ rfl w.heap.size v vs rfl HRb4_0.out w3x.heap.size (.slice a3x n3x c3x) hone4 rfl HNN4.out (by first | omega | (simp only [List.length_append,List.length_singleton]; omega)) HKb4.out.size ?_; intro v4x w4x ho hg; have HO4:=Lib.hid ho; have HG4:=Lib.hid hg; clear ho hg)
     have HVc4_0:=Lib.hid ((HVb4_0.out.snoc HTb4.out).grownRow HRb4_0.out HG4.out)
     have HCc4:=Lib.hid (HCb4.out.grown HG4.out (fun g h => by have:=own_row HRb4_0.out h; have:=HCW.out.lt; omega))
     have HKc4:=Lib.hid (HKb4.out.grown HG4.out (fun g h => own_row HRb4_0.out h))
     clear HCb4 HKb4 HNN4 HG4 hone4 HTb4 HRb4_0 HVb4_0
     have hkl : k < l.length:=by rw [HM.out]; exact hlt
     obtain ⟨a1,cp1,hve,hcs,hss⟩:=HSA.out.keep HKc4.out
     obtain ⟨b,off,ha1,hbC,hbl,hcell⟩:=hcs (by rintro rfl; simp at hkl)
     injection hve with e1 e2 e3
     subst e1 e3
     clear e2
     subst ha1
     have hnm:=hss l[k] (List.getElem_mem hkl)
     have c0:=hcell k hkl
     obtain ⟨sn,hsn⟩ : ∃ z,l[k] = z:=⟨_,rfl⟩
     rw [hsn] at hnm c0
     unfold strV at c0
     clear hcell hsn hcs hss
     go_simp
     have HF5x:=Lib.hid (nameOf_any sn w4x (by omega))
     go_wp2_with fail
     ((with_reducible refine HF5x.out.mono ?_))
     rintro e w5x ⟨v5x,rfl,hvv5,hbb5⟩
     obtain ⟨a5x,n5x,c5x,rfl⟩:=hvv5.form
     have HRw5_0:=Lib.hid (HO4.out.below hbb5)
     have HVw5_0:=Lib.hid (HVc4_0.out.below hbb5)
     clear HO4 HVc4_0
     have HK5x:=Lib.hid (HKc4.out.trans (Keep.of hbb5))
     have HC5x:=Lib.hid (HCc4.out.keep hbb5)
     have HT5x:=Lib.hid (hvv5.base (B':=0) (Nat.zero_le _))
     clear hvv5 hbb5 HF5x
     clear c0
     have HF6x:=Lib.hid (next_any C 20 w5x HC5x.out (by omega) (by omega))
     go_wp2_with fail
     ((with_reducible refine HF6x.out.mono ?_))
     rintro e w6x ⟨kb,rfl,hkb,hcc6,hkk6⟩
     have hkb' : (kb : Int) < 20:=hkb
     have HT5xq6:=Lib.hid (HT5x.out.keep HC5x.out hkk6)
     have HRw6_0:=Lib.hid (HRw5_0.out.keep HC5x.out hkk6)
     have HVw6_0:=Lib.hid (HVw5_0.out.keep HC5x.out hkk6)
     clear HRw5_0 HVw5_0
     have HK6x:=Lib.hid (HK5x.out.trans hkk6)
     have HC6x:=Lib.hid hcc6
     clear hcc6 hkk6 HF6x
     have HF7x:=Lib.hid (gInt_any (1 + (kb : Int)) w6x (by omega))
     go_wp2_with fail
     ((with_reducible refine HF7x.out.mono ?_))
     rintro e w7x ⟨v7x,rfl,hvv7,hbb7⟩
     obtain ⟨a7x,n7x,c7x,rfl⟩:=hvv7.form
     have HT5xq6q7:=Lib.hid (HT5xq6.out.below hbb7)
     have HRw7_0:=Lib.hid (HRw6_0.out.below hbb7)
     have HVw7_0:=Lib.hid (HVw6_0.out.below hbb7)
     clear HRw6_0 HVw6_0
     have HK7x:=Lib.hid (HK6x.out.trans (Keep.of hbb7))
     have HC7x:=Lib.hid (HC6x.out.keep hbb7)
     have HT7x:=Lib.hid (hvv7.base (B':=0) (Nat.zero_le _))
     clear hvv7 hbb7 HF7x
     have hal8 : Below w7x.heap.size w7x (w7x.alloc (.cells #[.slice a5x n5x c5x,.slice a7x n7x c7x] 24)):=(Below.refl _ _).alloc (Nat.le_refl _) _
     have HRa8_0:=Lib.hid (HRw7_0.out.below hal8)
     have HVa8_0:=Lib.hid (HVw7_0.out.below hal8)
     clear HRw7_0 HVw7_0
     have HKL8:=Lib.hid (KSl.lit w7x [.slice a5x n5x c5x,.slice a7x n7x c7x] 2 rfl)
     have HT5xq6q7z:=Lib.hid (HT5xq6q7.out.below hal8)
     have HT7xz:=Lib.hid (HT7x.out.below hal8)
     have HCz8:=Lib.hid (HC7x.out.keep hal8)
     have HKz8:=Lib.hid (HK7x.out.trans (Keep.of hal8))
     have HF8x:=Lib.hid (kNode_any 18 _ [.slice a5x n5x c5x,.slice a7x n7x c7x] [1,1] (w7x.alloc (.cells #[.slice a5x n5x c5x,.slice a7x n7x c7x] 24)) (fun h => by unfold NestP at h; omega) HKL8.out rfl (fun i h1 h2 => by
      match i,h1 with
      | 0,_ => exact HT5xq6q7z.out
      | 1,_ => exact HT7xz.out) (by simp) (by simp only [List.sum_cons,List.sum_nil]; omega))
     go_wp2_with fail
     ((with_reducible refine HF8x.out.mono ?_))
     rintro e w8x ⟨v8x,rfl,hvv8,hbb8⟩
     have HRw8_0:=Lib.hid (HRa8_0.out.below hbb8)
     have HVw8_0:=Lib.hid (HVa8_0.out.below hbb8)
     clear HRa8_0 HVa8_0
     have HK8x:=Lib.hid (HKz8.out.trans (Keep.of hbb8))
     have HC8x:=Lib.hid (HCz8.out.keep hbb8)
     obtain ⟨a8x,n8x,c8x,rfl⟩:=hvv8.form
     have HT8x:=Lib.hid (hvv8.base (B':=0) (Nat.zero_le _))
     clear hvv8 hbb8 HF8x hal8
     have hal9 : Below w8x.heap.size w8x (w8x.alloc (.cells #[.slice a8x n8x c8x] 24)):=(Below.refl _ _).alloc (Nat.le_refl _) _
     have hone9:=HT8x.out.one
     have HTb9:=Lib.hid (((HT8x.out.below hal9).base (B':=0) (Nat.zero_le _)).more (M:=3) (by first | (simp only [List.sum_cons,List.sum_nil]; omega) | omega))
     have HRb9_0:=Lib.hid (HRw8_0.out.below hal9)
     have HVb9_0:=Lib.hid (HVw8_0.out.below hal9)
     clear HRw8_0 HVw8_0
     have HCb9:=Lib.hid (HC8x.out.keep hal9)
     have HKb9:=Lib.hid (HK8x.out.trans (Keep.of hal9))
     have HNN9 : Hid ((w8x.alloc (.cells #[.slice a8x n8x c8x] 24)).heap[w8x.heap.size]? = some (.cells #[.slice a8x n8x c8x] 24 (0,0))):=Lib.hid (heap_alloc_new _ _)
     clear hal9
     go_wp2_with (at_builtin; refine wpList_append_kid rfl _ _ rfl w.heap.size v4x (vs ++ [.slice a3x n3x c3x]) rfl HRb9_0.out w8x.heap.size (.slice a8x n8x c8x) hone9 rfl HNN9.out (by first | omega | (simp only [List.length_append,List.length_singleton]; omega)) HKb9.out.size ?_; intro v9x w9x ho hg; have HO9:=Lib.hid ho; have HG9:=Lib.hid hg; clear ho hg)
     have HVc9_0:=Lib.hid ((HVb9_0.out.snoc HTb9.out).grownRow HRb9_0.out HG9.out)
     have HCc9:=Lib.hid (HCb9.out.grown HG9.out (fun g h => by have:=own_row HRb9_0.out h; have:=HCW.out.lt; omega))
     have HKc9:=Lib.hid (HKb9.out.grown HG9.out (fun g h => own_row HRb9_0.out h))
     clear HCb9 HKb9 HNN9 HG9 hone9 HTb9 HRb9_0 HVb9_0
     go_wp2_with fail
     go_roundw
     case rel => first | exact ⟨((vs ++ [.slice a3x n3x c3x]) ++ [.slice a8x n8x c8x]),k + 1,by go_num,by omega,by simp only [List.length_append,List.length_singleton]; omega,HO9,HVc9_0,HCc9,HKc9⟩ | exact ⟨_,((vs ++ [.slice a3x n3x c3x]) ++ [.slice a8x n8x c8x]),k + 1,rfl,by go_num,by omega,by simp only [List.length_append,List.length_singleton]; omega,HO9,HVc9_0,HCc9,HKc9⟩
     case measure => simp [intOf]; omega
   | false =>
     have hkl : k < l.length:=by rw [HM.out]; exact hlt
     obtain ⟨a1,cp1,hve,hcs,hss⟩:=HSA.out.keep HK4.out
     obtain ⟨b,off,ha1,hbC,hbl,hcell⟩:=hcs (by rintro rfl; simp at hkl)
     injection hve with e1 e2 e3
     subst e1 e3
     clear e2
     subst ha1
     have hnm:=hss l[k] (List.getElem_mem hkl)
     have c0:=hcell k hkl
     obtain ⟨sn,hsn⟩ : ∃ z,l[k] = z:=⟨_,rfl⟩
     rw [hsn] at hnm c0
     unfold strV at c0
     clear hcell hsn hcs hss
     have HF1x:=Lib.hid (nameOf_any sn w4 (by omega))
     go_wp2_with fail
     ((with_reducible refine HF1x.out.mono ?_))
     rintro e w1x ⟨v1x,rfl,hvv1,hbb1⟩
     obtain ⟨a1x,n1x,c1x,rfl⟩:=hvv1.form
     have HRw1_0:=Lib.hid (HR4.out.below hbb1)
     have HVw1_0:=Lib.hid (HV4.out.below hbb1)
     clear HR4 HV4
     have HK1x:=Lib.hid (HK4.out.trans (Keep.of hbb1))
     have HC1x:=Lib.hid (HC4.out.keep hbb1)
     have HT1x:=Lib.hid (hvv1.base (B':=0) (Nat.zero_le _))
     clear hvv1 hbb1 HF1x
     clear c0
     have HF2x:=Lib.hid (next_any C 20 w1x HC1x.out (by omega) (by omega))
     go_wp2_with fail
     ((with_reducible refine HF2x.out.mono ?_))
     rintro e w2x ⟨kb,rfl,hkb,hcc2,hkk2⟩
     have hkb' : (kb : Int) < 20:=hkb
     have HT1xq2:=Lib.hid (HT1x.out.keep HC1x.out hkk2)
     have HRw2_0:=Lib.hid (HRw1_0.out.keep HC1x.out hkk2)
     have HVw2_0:=Lib.hid (HVw1_0.out.keep HC1x.out hkk2)
     clear HRw1_0 HVw1_0
     have HK2x:=Lib.hid (HK1x.out.trans hkk2)
     have HC2x:=Lib.hid hcc2
     clear hcc2 hkk2 HF2x
     have HF3x:=Lib.hid (gInt_any (1 + (kb : Int)) w2x (by omega))
     go_wp2_with fail
     ((with_reducible refine HF3x.out.mono ?_))
     rintro e w3x ⟨v3x,rfl,hvv3,hbb3⟩
     obtain ⟨a3x,n3x,c3x,rfl⟩:=hvv3.form
     have HT1xq2q3:=Lib.hid (HT1xq2.out.below hbb3)
     have HRw3_0:=Lib.hid (HRw2_0.out.below hbb3)
     have HVw3_0:=Lib.hid (HVw2_0.out.below hbb3)
     clear HRw2_0 HVw2_0
     have HK3x:=Lib.hid (HK2x.out.trans (Keep.of hbb3))
     have HC3x:=Lib.hid (HC2x.out.keep hbb3)
     have HT3x:=Lib.hid (hvv3.base (B':=0) (Nat.zero_le _))
     clear hvv3 hbb3 HF3x
     have hal4 : Below w3x.heap.size w3x (w3x.alloc (.cells #[.slice a1x n1x c1x,.slice a3x n3x c3x] 24)):=(Below.refl _ _).alloc (Nat.le_refl _) _
     have HRa4_0:=Lib.hid (HRw3_0.out.below hal4)
     have HVa4_0:=Lib.hid (HVw3_0.out.below hal4)
     clear HRw3_0 HVw3_0
     have HKL4:=Lib.hid (KSl.lit w3x [.slice a1x n1x c1x,.slice a3x n3x c3x] 2 rfl)
     have HT1xq2q3z:=Lib.hid (HT1xq2q3.out.below hal4)
     have HT3xz:=Lib.hid (HT3x.out.below hal4)
     have HCz4:=Lib.hid (HC3x.out.keep hal4)
     have HKz4:=Lib.hid (HK3x.out.trans (Keep.of hal4))
     have HF4x:=Lib.hid (kNode_any 18 _ [.slice a1x n1x c1x,.slice a3x n3x c3x] [1,1] (w3x.alloc (.cells #[.slice a1x n1x c1x,.slice a3x n3x c3x] 24)) (fun h => by unfold NestP at h; omega) HKL4.out rfl (fun i h1 h2 => by
      match i,h1 with
      | 0,_ => exact HT1xq2q3z.out
      | 1,_ => exact HT3xz.out) (by simp) (by simp only [List.sum_cons,List.sum_nil]; omega))
     go_wp2_with fail
     ((with_reducible refine HF4x.out.mono ?_))
     rintro e w4x ⟨v4x,rfl,hvv4,hbb4⟩
     have HRw4_0:=Lib.hid (HRa4_0.out.below hbb4)
     have HVw4_0:=Lib.hid (HVa4_0.out.below hbb4)
     clear HRa4_0 HVa4_0
     have HK4x:=Lib.hid (HKz4.out.trans (Keep.of hbb4))
     have HC4x:=Lib.hid (HCz4.out.keep hbb4)
     obtain ⟨a4x,n4x,c4x,rfl⟩:=hvv4.form
     have HT4x:=Lib.hid (hvv4.base (B':=0) (Nat.zero_le _))
     clear hvv4 hbb4 HF4x hal4
     have hal5 : Below w4x.heap.size w4x (w4x.alloc (.cells #[.slice a4x n4x c4x] 24)):=(Below.refl _ _).alloc (Nat.le_refl _) _
     have hone5:=HT4x.out.one
     have HTb5:=Lib.hid (((HT4x.out.below hal5).base (B':=0) (Nat.zero_le _)).more (M:=3) (by first | (simp only [List.sum_cons,List.sum_nil]; omega) | omega))
     have HRb5_0:=Lib.hid (HRw4_0.out.below hal5)
     have HVb5_0:=Lib.hid (HVw4_0.out.below hal5)
     clear HRw4_0 HVw4_0
     have HCb5:=Lib.hid (HC4x.out.keep hal5)
     have HKb5:=Lib.hid (HK4x.out.trans (Keep.of hal5))
     have HNN5 : Hid ((w4x.alloc (.cells #[.slice a4x n4x c4x] 24)).heap[w4x.heap.size]? = some (.cells #[.slice a4x n4x c4x] 24 (0,0))):=Lib.hid (heap_alloc_new _ _)
     clear hal5
     go_wp2_with (at_builtin; refine wpList_append_kid rfl _ _ rfl w.heap.size v vs rfl HRb5_0.out w4x.heap.size (.slice a4x n4x c4x) hone5 rfl HNN5.out (by first | omega | (simp only [List.length_append,List.length_singleton]; omega)) HKb5.out.size ?_; intro v5x w5x ho hg; have HO5:=Lib.hid ho; have HG5:=Lib.hid hg; clear ho hg)
     have HVc5_0:=Lib.hid ((HVb5_0.out.snoc HTb5.out).grownRow HRb5_0.out HG5.out)
     have HCc5:=Lib.hid (HCb5.out.grown HG5.out (fun g h => by have:=own_row HRb5_0.out h; have:=HCW.out.lt; omega))
     have HKc5:=Lib.hid (HKb5.out.grown HG5.out (fun g h => own_row HRb5_0.out h))
     clear HCb5 HKb5 HNN5 HG5 hone5 HTb5 HRb5_0 HVb5_0
     go_wp2_with fail
     go_roundw
     case rel => first | exact ⟨(vs ++ [.slice a4x n4x c4x]),k + 1,by go_num,by omega,by simp only [List.length_append,List.length_singleton]; omega,HO5,HVc5_0,HCc5,HKc5⟩ | exact ⟨_,(vs ++ [.slice a4x n4x c4x]),k + 1,rfl,by go_num,by omega,by simp only [List.length_append,List.length_singleton]; omega,HO5,HVc5_0,HCc5,HKc5⟩
     case measure => simp [intOf]; omega
  ·have hlt' : ¬ (k : Int) < (M : Int):=by omega
   have hkM2 : k = M:=by omega
   have hv4 : vs.length ≤ 4:=by omega
   have HF1x:=Lib.hid (next_any C ((wd : Int) + 1) w3 HC.out (by omega) (by omega))
   go_wp2_with fail
   ((with_reducible refine HF1x.out.mono ?_))
   rintro e w1x ⟨kw,rfl,hkw,hcc1,hkk1⟩
   have hkw' : (kw : Int) < ((wd : Int) + 1):=hkw
   have HRw1_0:=Lib.hid (HR.out.keep HC.out hkk1)
   have HVw1_0:=Lib.hid (HV.out.keep HC.out hkk1)
   clear HR HV
   have HK1x:=Lib.hid (HK.out.trans hkk1)
   have HC1x:=Lib.hid hcc1
   clear hcc1 hkk1 HF1x
   have hkw3 : kw ≤ 3:=by omega
   have hkws : kw = 0 ∨ kw = 1 ∨ kw = 2:=by omega
   obtain ⟨pw,hpw0,hpw⟩ : ∃ pw : Int,(0 ≤ pw ∧ pw ≤ 18446744073709551615) ∧ IntKind.u64.wrap (2 ^ kw) = pw:=⟨_,shl_pos kw hkw3,rfl⟩
   have HF2x:=Lib.hid (gInt_any pw w1x hpw0)
   go_wp2_with fail
   ((with_reducible refine HF2x.out.mono ?_))
   rintro e w2x ⟨v2x,rfl,hvv2,hbb2⟩
   obtain ⟨a2x,n2x,c2x,rfl⟩:=hvv2.form
   have HRw2_0:=Lib.hid (HRw1_0.out.below hbb2)
   have HVw2_0:=Lib.hid (HVw1_0.out.below hbb2)
   clear HRw1_0 HVw1_0
   have HK2x:=Lib.hid (HK1x.out.trans (Keep.of hbb2))
   have HC2x:=Lib.hid (HC1x.out.keep hbb2)
   have HT2x:=Lib.hid (hvv2.base (B':=0) (Nat.zero_le _))
   clear hvv2 hbb2 HF2x
   have HF3x:=Lib.hid (next_any C 3 w2x HC2x.out (by omega) (by omega))
   go_wp2_with fail
   ((with_reducible refine HF3x.out.mono ?_))
   rintro e w3x ⟨ku,rfl,hku,hcc3,hkk3⟩
   have hku' : (ku : Int) < 3:=hku
   have HT2xq3:=Lib.hid (HT2x.out.keep HC2x.out hkk3)
   have HRw3_0:=Lib.hid (HRw2_0.out.keep HC2x.out hkk3)
   have HVw3_0:=Lib.hid (HVw2_0.out.keep HC2x.out hkk3)
   clear HRw2_0 HVw2_0
   have HK3x:=Lib.hid (HK2x.out.trans hkk3)
   have HC3x:=Lib.hid hcc3
   clear hcc3 hkk3 HF3x
   have HF4x:=Lib.hid (gInt_any ku w3x (by omega))
   go_wp2_with fail
   ((with_reducible refine HF4x.out.mono ?_))
   rintro e w4x ⟨v4x,rfl,hvv4,hbb4⟩
   obtain ⟨a4x,n4x,c4x,rfl⟩:=hvv4.form
   have HT2xq3q4:=Lib.hid (HT2xq3.out.below hbb4)
   have HRw4_0:=Lib.hid (HRw3_0.out.below hbb4)
   have HVw4_0:=Lib.hid (HVw3_0.out.below hbb4)
   clear HRw3_0 HVw3_0
   have HK4x:=Lib.hid (HK3x.out.trans (Keep.of hbb4))
   have HC4x:=Lib.hid (HC3x.out.keep hbb4)
   have HT4x:=Lib.hid (hvv4.base (B':=0) (Nat.zero_le _))
   clear hvv4 hbb4 HF4x
   cases ix with
   | true =>
     have HF5x:=Lib.hid (nameOf_any [70,49] w4x (by simp))
     go_wp2_with fail
     ((with_reducible refine HF5x.out.mono ?_))
     rintro e w5x ⟨v5x,rfl,hvv5,hbb5⟩
     obtain ⟨a5x,n5x,c5x,rfl⟩:=hvv5.form
     have HT2xq3q4q5:=Lib.hid (HT2xq3q4.out.below hbb5)
     have HT4xq5:=Lib.hid (HT4x.out.below hbb5)
     have HRw5_0:=Lib.hid (HRw4_0.out.below hbb5)
     have HVw5_0:=Lib.hid (HVw4_0.out.below hbb5)
     clear HRw4_0 HVw4_0
     have HK5x:=Lib.hid (HK4x.out.trans (Keep.of hbb5))
     have HC5x:=Lib.hid (HC4x.out.keep hbb5)
     have HT5x:=Lib.hid (hvv5.base (B':=0) (Nat.zero_le _))
     clear hvv5 hbb5 HF5x
     have HF6x:=Lib.hid (nameOf_any [70,50] w5x (by simp))
     go_wp2_with fail
     ((with_reducible refine HF6x.out.mono ?_))
     rintro e w6x ⟨v6x,rfl,hvv6,hbb6⟩
     obtain ⟨a6x,n6x,c6x,rfl⟩:=hvv6.form
     have HT2xq3q4q5q6:=Lib.hid (HT2xq3q4q5.out.below hbb6)
     have HT4xq5q6:=Lib.hid (HT4xq5.out.below hbb6)
     have HT5xq6:=Lib.hid (HT5x.out.below hbb6)
     have HRw6_0:=Lib.hid (HRw5_0.out.below hbb6)
     have HVw6_0:=Lib.hid (HVw5_0.out.below hbb6)
     clear HRw5_0 HVw5_0
     have HK6x:=Lib.hid (HK5x.out.trans (Keep.of hbb6))
     have HC6x:=Lib.hid (HC5x.out.keep hbb6)
     have HT6x:=Lib.hid (hvv6.base (B':=0) (Nat.zero_le _))
     clear hvv6 hbb6 HF6x
     obtain ⟨av7,cv7,hve7⟩:=HRw6_0.out.form
     have HF7x:=Lib.hid (kNode_any 4 _ vs (List.replicate vs.length 3) w6x (fun h => by unfold NestP at h; omega) HRw6_0.out.sl (by simp) HVw6_0.out.each (by omega) (by rw [sum_rep]; omega))
     rw [sum_rep] at HF7x
     rw [hve7] at HF7x
     (try rw [hve7])
     go_wp2_with fail
     ((with_reducible refine HF7x.out.mono ?_))
     rintro e w7x ⟨v7x,rfl,hvv7,hbb7⟩
     have HT5xq6q7:=Lib.hid (HT5xq6.out.below hbb7)
     have HT6xq7:=Lib.hid (HT6x.out.below hbb7)
     have HT2xq3q4q5q6q7:=Lib.hid (HT2xq3q4q5q6.out.below hbb7)
     have HT4xq5q6q7:=Lib.hid (HT4xq5q6.out.below hbb7)
     have HK7x:=Lib.hid (HK6x.out.trans (Keep.of hbb7))
     have HC7x:=Lib.hid (HC6x.out.keep hbb7)
     obtain ⟨a7x,n7x,c7x,rfl⟩:=hvv7.form
     have HT7x:=Lib.hid (hvv7.base (B':=0) (Nat.zero_le _))
     clear hvv7 hbb7 HF7x
     have HT7y:=Lib.hid (HT7x.out.more (M:=13) (by omega))
     clear HT7x
     have hal8 : Below w7x.heap.size w7x (w7x.alloc (.cells #[.slice a5x n5x c5x,.slice a6x n6x c6x,.slice a2x n2x c2x,.slice a4x n4x c4x,.slice a7x n7x c7x] 24)):=(Below.refl _ _).alloc (Nat.le_refl _) _
     have HKL8:=Lib.hid (KSl.lit w7x [.slice a5x n5x c5x,.slice a6x n6x c6x,.slice a2x n2x c2x,.slice a4x n4x c4x,.slice a7x n7x c7x] 5 rfl)
     have HT5xq6q7z:=Lib.hid (HT5xq6q7.out.below hal8)
     have HT6xq7z:=Lib.hid (HT6xq7.out.below hal8)
     have HT2xq3q4q5q6q7z:=Lib.hid (HT2xq3q4q5q6q7.out.below hal8)
     have HT4xq5q6q7z:=Lib.hid (HT4xq5q6q7.out.below hal8)
     have HT7yz:=Lib.hid (HT7y.out.below hal8)
     have HCz8:=Lib.hid (HC7x.out.keep hal8)
     have HKz8:=Lib.hid (HK7x.out.trans (Keep.of hal8))
     have HF8x:=Lib.hid (kNode_any 17 _ [.slice a5x n5x c5x,.slice a6x n6x c6x,.slice a2x n2x c2x,.slice a4x n4x c4x,.slice a7x n7x c7x] [1,1,1,1,13] (w7x.alloc (.cells #[.slice a5x n5x c5x,.slice a6x n6x c6x,.slice a2x n2x c2x,.slice a4x n4x c4x,.slice a7x n7x c7x] 24)) (fun _ => nest_sum (B:=13) (K:=17) (by simp only [List.sum_cons,List.sum_nil]; omega) (by decide) (by intro N hN; simp only [List.mem_cons,List.not_mem_nil,or_false] at hN; omega)) HKL8.out rfl (fun i h1 h2 => by
      match i,h1 with
      | 0,_ => exact HT5xq6q7z.out
      | 1,_ => exact HT6xq7z.out
      | 2,_ => exact HT2xq3q4q5q6q7z.out
      | 3,_ => exact HT4xq5q6q7z.out
      | 4,_ => exact HT7yz.out) (by simp) (by simp only [List.sum_cons,List.sum_nil]; omega))
     go_wp2_with fail
     ((with_reducible refine HF8x.out.mono ?_))
     rintro e w8x ⟨v8x,rfl,hvv8,hbb8⟩
     have HK8x:=Lib.hid (HKz8.out.trans (Keep.of hbb8))
     have HC8x:=Lib.hid (HCz8.out.keep hbb8)
     have HVF:=Lib.hid ((hvv8.base (B':=w.heap.size) HKz8.out.size).more (M:=20) (by first | (simp only [List.sum_cons,List.sum_nil]; omega) | (omega)))
     clear hvv8 hbb8
     go_wp2_with fail
     go_ret
     exact ⟨_,rfl,HVF.out,HC8x.out,HK8x.out⟩
   | false =>
     have HF5x:=Lib.hid (nameOf_any [82,49] w4x (by simp))
     go_wp2_with fail
     ((with_reducible refine HF5x.out.mono ?_))
     rintro e w5x ⟨v5x,rfl,hvv5,hbb5⟩
     obtain ⟨a5x,n5x,c5x,rfl⟩:=hvv5.form
     have HT2xq3q4q5:=Lib.hid (HT2xq3q4.out.below hbb5)
     have HT4xq5:=Lib.hid (HT4x.out.below hbb5)
     have HRw5_0:=Lib.hid (HRw4_0.out.below hbb5)
     have HVw5_0:=Lib.hid (HVw4_0.out.below hbb5)
     clear HRw4_0 HVw4_0
     have HK5x:=Lib.hid (HK4x.out.trans (Keep.of hbb5))
     have HC5x:=Lib.hid (HC4x.out.keep hbb5)
     have HT5x:=Lib.hid (hvv5.base (B':=0) (Nat.zero_le _))
     clear hvv5 hbb5 HF5x
     obtain ⟨av6,cv6,hve6⟩:=HRw5_0.out.form
     have HF6x:=Lib.hid (kNode_any 4 _ vs (List.replicate vs.length 3) w5x (fun h => by unfold NestP at h; omega) HRw5_0.out.sl (by simp) HVw5_0.out.each (by omega) (by rw [sum_rep]; omega))
     rw [sum_rep] at HF6x
     rw [hve6] at HF6x
     (try rw [hve6])
     go_wp2_with fail
     ((with_reducible refine HF6x.out.mono ?_))
     rintro e w6x ⟨v6x,rfl,hvv6,hbb6⟩
     have HT5xq6:=Lib.hid (HT5x.out.below hbb6)
     have HT2xq3q4q5q6:=Lib.hid (HT2xq3q4q5.out.below hbb6)
     have HT4xq5q6:=Lib.hid (HT4xq5.out.below hbb6)
     have HK6x:=Lib.hid (HK5x.out.trans (Keep.of hbb6))
     have HC6x:=Lib.hid (HC5x.out.keep hbb6)
     obtain ⟨a6x,n6x,c6x,rfl⟩:=hvv6.form
     have HT6x:=Lib.hid (hvv6.base (B':=0) (Nat.zero_le _))
     clear hvv6 hbb6 HF6x
     have HT6y:=Lib.hid (HT6x.out.more (M:=13) (by omega))
     clear HT6x
     have hal7 : Below w6x.heap.size w6x (w6x.alloc (.cells #[.slice a5x n5x c5x,.slice a2x n2x c2x,.slice a4x n4x c4x,.slice a6x n6x c6x] 24)):=(Below.refl _ _).alloc (Nat.le_refl _) _
     have HKL7:=Lib.hid (KSl.lit w6x [.slice a5x n5x c5x,.slice a2x n2x c2x,.slice a4x n4x c4x,.slice a6x n6x c6x] 4 rfl)
     have HT5xq6z:=Lib.hid (HT5xq6.out.below hal7)
     have HT2xq3q4q5q6z:=Lib.hid (HT2xq3q4q5q6.out.below hal7)
     have HT4xq5q6z:=Lib.hid (HT4xq5q6.out.below hal7)
     have HT6yz:=Lib.hid (HT6y.out.below hal7)
     have HCz7:=Lib.hid (HC6x.out.keep hal7)
     have HKz7:=Lib.hid (HK6x.out.trans (Keep.of hal7))
     have HF7x:=Lib.hid (kNode_any 16 _ [.slice a5x n5x c5x,.slice a2x n2x c2x,.slice a4x n4x c4x,.slice a6x n6x c6x] [1,1,1,13] (w6x.alloc (.cells #[.slice a5x n5x c5x,.slice a2x n2x c2x,.slice a4x n4x c4x,.slice a6x n6x c6x] 24)) (fun _ => nest_sum (B:=13) (K:=17) (by simp only [List.sum_cons,List.sum_nil]; omega) (by decide) (by intro N hN; simp only [List.mem_cons,List.not_mem_nil,or_false] at hN; omega)) HKL7.out rfl (fun i h1 h2 => by
      match i,h1 with
      | 0,_ => exact HT5xq6z.out
      | 1,_ => exact HT2xq3q4q5q6z.out
      | 2,_ => exact HT4xq5q6z.out
      | 3,_ => exact HT6yz.out) (by simp) (by simp only [List.sum_cons,List.sum_nil]; omega))
     go_wp2_with fail
     ((with_reducible refine HF7x.out.mono ?_))
     rintro e w7x ⟨v7x,rfl,hvv7,hbb7⟩
     have HK7x:=Lib.hid (HKz7.out.trans (Keep.of hbb7))
     have HC7x:=Lib.hid (HCz7.out.keep hbb7)
     have HVF:=Lib.hid ((hvv7.base (B':=w.heap.size) HKz7.out.size).more (M:=20) (by first | (simp only [List.sum_cons,List.sum_nil]; omega) | (omega)))
     clear hvv7 hbb7
     go_wp2_with fail
     go_ret
     exact ⟨_,rfl,HVF.out,HC7x.out,HK7x.out⟩
end Go.Proofs.YtoohondkpddmcaaGreatDoor
