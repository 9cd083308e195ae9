/- Pm -/
import Derived.Test.YtoohondkpddmcaaGreatDoorVbv
set_option linter.unusedVariables false
set_option linter.unusedSimpArgs false
namespace Go.Proofs.YtoohondkpddmcaaGreatDoor
open Go.RowKit
attribute [local go_sem] ByteArray.mk_append_mk bs_get bs_cut bs_end
abbrev scO : Obj:=.cells #[.string ⟨#[92]⟩,.string ⟨#[92,95,83,66]⟩,.string ⟨#[68,69,86,48]⟩,.string ⟨#[65]⟩,.string ⟨#[94]⟩] 9
def scL : List (List UInt8):=[[92],[92,95,83,66],[68,69,86,48],[65],[94]]
theorem sc_at : ∀ k : Fin 5,∃ x ∈ scL,scL[k.val]? = some x ∧ x.length ≤ 4:=by decide +kernel
theorem sc_cell {w : World} {A : Nat} (h : w.heap[A]? = some scO) (k : Nat) (hk : k < 5) : ∃ x : List UInt8,x.length ≤ 4 ∧ w.cell? ⟨A,k,none⟩ = some (.string ⟨x.toArray⟩):=by
 obtain ⟨x,_,h1,h2⟩:=sc_at ⟨k,hk⟩
 refine ⟨x,h2,?_⟩
 rw [cell_of_row w A k _ _ (0,0) h]
 have e : (scL.map strV).toArray[k]? = some (strV x):=by
  have h1' : scL[k]? = some x:=h1
  rw [List.getElem?_toArray,List.getElem?_map,h1']
  rfl
 exact e
set_option maxRecDepth 100000 in
set_option maxHeartbeats 8000000 in
theorem method_any (C : Nat) (s : List UInt8) (dep : Int) (B N : Nat) (hd : -10 ≤ dep ∧ dep ≤ 10) (hs : s.length ≤ 6) (hN : 5 + B ≤ N) (hB : B ≤ 100000) (hB1 : 1 ≤ B) (hBH : dpN B + 1 ≤ dpN (5 + B)) (ih : BlockOk C dep B) (w : World) (hc : CSt w C) :
  Calls Tryz.prog 51 #[.pointer (some ⟨C,0,none⟩),.string ⟨s.toArray⟩,.int .i64 dep] w (GPost C N w):=by
 have HC:=Lib.hid hc
 have HK:=Lib.hid (Keep.refl C w)
 have HB:=Lib.hid ih
 unfold BlockOk at HB
 clear hc ih
 go_enter Tryz.func51,Tryz.ntmps51
 have HF1x:=Lib.hid (next_any C 3 w HC.out (by omega) (by omega))
 go_wp2_with fail
 ((with_reducible refine HF1x.out.mono ?_))
 rintro e w1x ⟨ka,rfl,hka,hcc1,hkk1⟩
 have hka' : (ka : Int) < 3:=hka
 have HK1x:=Lib.hid (HK.out.trans hkk1)
 have HC1x:=Lib.hid hcc1
 clear hcc1 hkk1 HF1x
 have HF2x:=Lib.hid (nameOf_any s w1x (by omega))
 go_wp2_with fail
 ((with_reducible refine HF2x.out.mono ?_))
 rintro e w2x ⟨v2x,rfl,hvv2,hbb2⟩
 obtain ⟨a2x,n2x,c2x,rfl⟩:=hvv2.form
 have HK2x:=Lib.hid (HK1x.out.trans (Keep.of hbb2))
 have HC2x:=Lib.hid (HC1x.out.keep hbb2)
 have HT2x:=Lib.hid (hvv2.base (B':=0) (Nat.zero_le _))
 clear hvv2 hbb2 HF2x
 have HF3x:=Lib.hid (gInt_any ka w2x (by omega))
 go_wp2_with fail
 ((with_reducible refine HF3x.out.mono ?_))
 rintro e w3x ⟨v3x,rfl,hvv3,hbb3⟩
 obtain ⟨a3x,n3x,c3x,rfl⟩:=hvv3.form
 have HT2xq3:=Lib.hid (HT2x.out.below hbb3)
 have HK3x:=Lib.hid (HK2x.out.trans (Keep.of hbb3))
 have HC3x:=Lib.hid (HC2x.out.keep hbb3)
 have HT3x:=Lib.hid (hvv3.base (B':=0) (Nat.zero_le _))
 clear hvv3 hbb3 HF3x
 have HF4x:=Lib.hid (next_any C 2 w3x HC3x.out (by omega) (by omega))
 go_wp2_with fail
 ((with_reducible refine HF4x.out.mono ?_))
 rintro e w4x ⟨kb,rfl,hkb,hcc4,hkk4⟩
 have hkb' : (kb : Int) < 2:=hkb
 have HT2xq3q4:=Lib.hid (HT2xq3.out.keep HC3x.out hkk4)
 have HT3xq4:=Lib.hid (HT3x.out.keep HC3x.out hkk4)
 have HK4x:=Lib.hid (HK3x.out.trans hkk4)
 have HC4x:=Lib.hid hcc4
 clear hcc4 hkk4 HF4x
 have HF5x:=Lib.hid (gInt_any kb w4x (by omega))
 go_wp2_with fail
 ((with_reducible refine HF5x.out.mono ?_))
 rintro e w5x ⟨v5x,rfl,hvv5,hbb5⟩
 obtain ⟨a5x,n5x,c5x,rfl⟩:=hvv5.form
 have HT2xq3q4q5:=Lib.hid (HT2xq3q4.out.below hbb5)
 have HT3xq4q5:=Lib.hid (HT3xq4.out.below hbb5)
 have HK5x:=Lib.hid (HK4x.out.trans (Keep.of hbb5))
 have HC5x:=Lib.hid (HC4x.out.keep hbb5)
 have HT5x:=Lib.hid (hvv5.base (B':=0) (Nat.zero_le _))
 clear hvv5 hbb5 HF5x
 have HF6x:=Lib.hid (next_any C 3 w5x HC5x.out (by omega) (by omega))
 go_wp2_with fail
 ((with_reducible refine HF6x.out.mono ?_))
 rintro e w6x ⟨kc,rfl,hkc,hcc6,hkk6⟩
 have hkc' : (kc : Int) < 3:=hkc
 have HT2xq3q4q5q6:=Lib.hid (HT2xq3q4q5.out.keep HC5x.out hkk6)
 have HT3xq4q5q6:=Lib.hid (HT3xq4q5.out.keep HC5x.out hkk6)
 have HT5xq6:=Lib.hid (HT5x.out.keep HC5x.out hkk6)
 have HK6x:=Lib.hid (HK5x.out.trans hkk6)
 have HC6x:=Lib.hid hcc6
 clear hcc6 hkk6 HF6x
 have HF7x:=Lib.hid (gInt_any kc w6x (by omega))
 go_wp2_with fail
 ((with_reducible refine HF7x.out.mono ?_))
 rintro e w7x ⟨v7x,rfl,hvv7,hbb7⟩
 obtain ⟨a7x,n7x,c7x,rfl⟩:=hvv7.form
 have HT2xq3q4q5q6q7:=Lib.hid (HT2xq3q4q5q6.out.below hbb7)
 have HT3xq4q5q6q7:=Lib.hid (HT3xq4q5q6.out.below hbb7)
 have HT5xq6q7:=Lib.hid (HT5xq6.out.below hbb7)
 have HK7x:=Lib.hid (HK6x.out.trans (Keep.of hbb7))
 have HC7x:=Lib.hid (HC6x.out.keep hbb7)
 have HT7x:=Lib.hid (hvv7.base (B':=0) (Nat.zero_le _))
 clear hvv7 hbb7 HF7x
 have HF8x:=Lib.hid (HB.out ka false w7x (by omega) (by omega) HC7x.out)
 unfold GPost at HF8x
 go_wp2_with fail
 ((with_reducible refine HF8x.out.mono ?_))
 rintro e w8x ⟨v8x,rfl,hvv8,hcc8,hkk8⟩
 obtain ⟨a8x,n8x,c8x,rfl⟩:=hvv8.form
 have HT2xq3q4q5q6q7q8:=Lib.hid (HT2xq3q4q5q6q7.out.keep HC7x.out hkk8)
 have HT3xq4q5q6q7q8:=Lib.hid (HT3xq4q5q6q7.out.keep HC7x.out hkk8)
 have HT5xq6q7q8:=Lib.hid (HT5xq6q7.out.keep HC7x.out hkk8)
 have HT7xq8:=Lib.hid (HT7x.out.keep HC7x.out hkk8)
 have HK8x:=Lib.hid (HK7x.out.trans hkk8)
 have HC8x:=Lib.hid hcc8
 have HT8x:=Lib.hid (hvv8.base (B':=0) (Nat.zero_le _))
 clear hvv8 hcc8 hkk8 HF8x
 have hal9 : Below w8x.heap.size w8x (w8x.alloc (.cells #[.slice a2x n2x c2x,.slice a3x n3x c3x,.slice a5x n5x c5x,.slice a7x n7x c7x,.slice a8x n8x c8x] 24)):=(Below.refl _ _).alloc (Nat.le_refl _) _
 have HKL9:=Lib.hid (KSl.lit w8x [.slice a2x n2x c2x,.slice a3x n3x c3x,.slice a5x n5x c5x,.slice a7x n7x c7x,.slice a8x n8x c8x] 5 rfl)
 have HT2xq3q4q5q6q7q8z:=Lib.hid (HT2xq3q4q5q6q7q8.out.below hal9)
 have HT3xq4q5q6q7q8z:=Lib.hid (HT3xq4q5q6q7q8.out.below hal9)
 have HT5xq6q7q8z:=Lib.hid (HT5xq6q7q8.out.below hal9)
 have HT7xq8z:=Lib.hid (HT7xq8.out.below hal9)
 have HT8xz:=Lib.hid (HT8x.out.below hal9)
 have HCz9:=Lib.hid (HC8x.out.keep hal9)
 have HKz9:=Lib.hid (HK8x.out.trans (Keep.of hal9))
 have HF9x:=Lib.hid (kNode_any 14 _ [.slice a2x n2x c2x,.slice a3x n3x c3x,.slice a5x n5x c5x,.slice a7x n7x c7x,.slice a8x n8x c8x] [1,1,1,1,B] (w8x.alloc (.cells #[.slice a2x n2x c2x,.slice a3x n3x c3x,.slice a5x n5x c5x,.slice a7x n7x c7x,.slice a8x n8x c8x] 24)) (fun _ => nest_sum (B:=B) (K:=5 + B) (by simp only [List.sum_cons,List.sum_nil]; omega) hBH (by intro N hN; simp only [List.mem_cons,List.not_mem_nil,or_false] at hN; omega)) HKL9.out rfl (fun i h1 h2 => by
  match i,h1 with
  | 0,_ => exact HT2xq3q4q5q6q7q8z.out
  | 1,_ => exact HT3xq4q5q6q7q8z.out
  | 2,_ => exact HT5xq6q7q8z.out
  | 3,_ => exact HT7xq8z.out
  | 4,_ => exact HT8xz.out) (by simp) (by simp only [List.sum_cons,List.sum_nil]; omega))
 go_wp2_with fail
 ((with_reducible refine HF9x.out.mono ?_))
 rintro e w9x ⟨v9x,rfl,hvv9,hbb9⟩
 have HK9x:=Lib.hid (HKz9.out.trans (Keep.of hbb9))
 have HC9x:=Lib.hid (HCz9.out.keep hbb9)
 have HVF:=Lib.hid ((hvv9.base (B':=w.heap.size) HKz9.out.size).more (M:=N) (by first | (simp only [List.sum_cons,List.sum_nil]; omega) | (omega)))
 clear hvv9 hbb9
 go_wp2_with fail
 go_ret
 exact ⟨_,rfl,HVF.out,HC9x.out,HK9x.out⟩
def DeclOk (C : Nat) (dep : Int) (N : Nat) : Prop:=∀ w,CSt w C → Calls Tryz.prog 27 #[.pointer (some ⟨C,0,none⟩),.int .i64 dep] w (GPost C N w)
def DeclsOk (C : Nat) (dep : Int) (N : Nat) : Prop:=∀ w,CSt w C → Calls Tryz.prog 58 #[.pointer (some ⟨C,0,none⟩),.int .i64 dep] w (GPost C N w)
theorem gfields_two (C : Nat) (l : List (List UInt8)) (nm : Value) (ix : Bool) (w : World) (hc : CSt w C) (hsa : SArg C w nm l) (hl : l.length ≤ 2) :
 Calls Tryz.prog 45 #[.pointer (some ⟨C,0,none⟩),nm,.bool ix,.int .i64 2] w (GPost C 20 w):=gfields_any C l nm ix 2 w hc hsa hl (by omega)
theorem segk_any (C : Nat) (n : Int) (w : World) (h : CSt w C) :
  Calls Tryz.prog 57 #[.int .i64 n] w fun e w' => ∃ s : List UInt8,e = .returned (.string ⟨s.toArray⟩) ∧ s.length ≤ 5 ∧ CSt w' C ∧ Keep C w w' :=
 (seg_keep C n w h).mono fun e w' ⟨s,h1,h2,h3⟩ => ⟨s,h1,by omega,h3⟩
set_option maxRecDepth 100000 in
set_option maxHeartbeats 16000000 in
theorem decl_step (C : Nat) (dep : Int) (B N : Nat) (hd : -10 ≤ dep ∧ dep ≤ 10) (hB : B ≤ 300000) (hN : 6057 ≤ N) (hbl : BlockOk C 2 6052) (hda : DataOk C 2) (ih : 0 < dep → DeclsOk C (dep - 1) B ∧ 4 + B ≤ N ∧ 1 ≤ B ∧ dpN B + 1 ≤ dpN (2 + B)) : DeclOk C dep N:=by
 intro w hc
 have IH:=Lib.hid ih
 have HME:=Lib.hid (fun s hs w hc => method_any C s 2 6052 6057 (by omega) hs (by omega) (by omega) (by omega) (by decide) hbl w hc)
 have HDA : Hid (∀ w,CSt w C → Calls Tryz.prog 49 #[.pointer (some ⟨C,0,none⟩),.int .i64 2] w (GPost C 66 w)):=Lib.hid hda
 have HC:=Lib.hid hc
 have HK:=Lib.hid (Keep.refl C w)
 clear hc ih hbl hda
 go_enter Tryz.func27,Tryz.ntmps27
 have HF1x:=Lib.hid (next_any C 10 w HC.out (by omega) (by omega))
 go_wp2_with fail
 ((with_reducible refine HF1x.out.mono ?_))
 rintro e w1x ⟨kn,rfl,hkn,hcc1,hkk1⟩
 have hkn' : (kn : Int) < 10:=hkn
 have HK1x:=Lib.hid (HK.out.trans hkk1)
 have HC1x:=Lib.hid hcc1
 clear hcc1 hkk1 HF1x
 have HF2x:=Lib.hid (segk_any C kn w1x HC1x.out)
 go_wp2_with fail
 ((with_reducible refine HF2x.out.mono ?_))
 rintro e w2x ⟨nm,rfl,hnm,hcc2,hkk2⟩
 have HK2x:=Lib.hid (HK1x.out.trans hkk2)
 have HC2x:=Lib.hid hcc2
 clear hcc2 hkk2 HF2x
 have HF3x:=Lib.hid (next_any C 10 w2x HC2x.out (by omega) (by omega))
 go_wp2_with fail
 ((with_reducible refine HF3x.out.mono ?_))
 rintro e w3x ⟨k,rfl,hk,hcc3,hkk3⟩
 have hk' : (k : Int) < 10:=hk
 have HK3x:=Lib.hid (HK2x.out.trans hkk3)
 have HC3x:=Lib.hid hcc3
 clear hcc3 hkk3 HF3x
 have hks : (1 ≤ k ∧ k ≤ 3 ∧ 0 < dep) ∨ k = 4 ∨ k = 5 ∨ k = 6 ∨ k = 7 ∨ k = 8 ∨ (k = 0 ∨ k = 9 ∨ ((k = 1 ∨ k = 2 ∨ k = 3) ∧ ¬ 0 < dep)):=by omega
 clear hk hk'
 rcases hks with ⟨hka,hkb,hdp⟩ | rfl | rfl | rfl | rfl | rfl | hks
 ·obtain ⟨ihb,hBN,hB1,hBH⟩:=IH.out hdp
  have HDS:=Lib.hid ihb
  unfold DeclsOk at HDS
  clear ihb IH
  have hks : k = 1 ∨ k = 2 ∨ k = 3:=by omega
  clear hka hkb
  rcases hks with rfl | rfl | rfl
  ·have HF4x:=Lib.hid (nameOf_any nm w3x (by omega))
   go_wp2_with fail
   ((with_reducible refine HF4x.out.mono ?_))
   rintro e w4x ⟨v4x,rfl,hvv4,hbb4⟩
   obtain ⟨a4x,n4x,c4x,rfl⟩:=hvv4.form
   have HK4x:=Lib.hid (HK3x.out.trans (Keep.of hbb4))
   have HC4x:=Lib.hid (HC3x.out.keep hbb4)
   have HT4x:=Lib.hid (hvv4.base (B':=0) (Nat.zero_le _))
   clear hvv4 hbb4 HF4x
   have HF5x:=Lib.hid (HDS.out w4x HC4x.out)
   unfold GPost at HF5x
   go_wp2_with fail
   ((with_reducible refine HF5x.out.mono ?_))
   rintro e w5x ⟨v5x,rfl,hvv5,hcc5,hkk5⟩
   obtain ⟨a5x,n5x,c5x,rfl⟩:=hvv5.form
   have HT4xq5:=Lib.hid (HT4x.out.keep HC4x.out hkk5)
   have HK5x:=Lib.hid (HK4x.out.trans hkk5)
   have HC5x:=Lib.hid hcc5
   have HT5x:=Lib.hid (hvv5.base (B':=0) (Nat.zero_le _))
   clear hvv5 hcc5 hkk5 HF5x
   have hal6 : Below w5x.heap.size w5x (w5x.alloc (.cells #[.slice a4x n4x c4x,.slice a5x n5x c5x] 24)):=(Below.refl _ _).alloc (Nat.le_refl _) _
   have HKL6:=Lib.hid (KSl.lit w5x [.slice a4x n4x c4x,.slice a5x n5x c5x] 2 rfl)
   have HT4xq5z:=Lib.hid (HT4xq5.out.below hal6)
   have HT5xz:=Lib.hid (HT5x.out.below hal6)
   have HCz6:=Lib.hid (HC5x.out.keep hal6)
   have HKz6:=Lib.hid (HK5x.out.trans (Keep.of hal6))
   have HF6x:=Lib.hid (kNode_any 11 _ [.slice a4x n4x c4x,.slice a5x n5x c5x] [1,B] (w5x.alloc (.cells #[.slice a4x n4x c4x,.slice a5x n5x c5x] 24)) (fun _ => nest_sum (B:=B) (K:=2 + B) (by simp only [List.sum_cons,List.sum_nil]; omega) hBH (by intro N hN; simp only [List.mem_cons,List.not_mem_nil,or_false] at hN; omega)) HKL6.out rfl (fun i h1 h2 => by
    match i,h1 with
    | 0,_ => exact HT4xq5z.out
    | 1,_ => exact HT5xz.out) (by simp) (by simp only [List.sum_cons,List.sum_nil]; omega))
   go_wp2_with fail
   ((with_reducible refine HF6x.out.mono ?_))
   rintro e w6x ⟨v6x,rfl,hvv6,hbb6⟩
   have HK6x:=Lib.hid (HKz6.out.trans (Keep.of hbb6))
   have HC6x:=Lib.hid (HCz6.out.keep hbb6)
   have HVF:=Lib.hid ((hvv6.base (B':=w.heap.size) HKz6.out.size).more (M:=N) (by first | (simp only [List.sum_cons,List.sum_nil]; omega) | (omega)))
   clear hvv6 hbb6
   go_wp2_with fail
   go_ret
   exact ⟨_,rfl,HVF.out,HC6x.out,HK6x.out⟩
  ·have HF4x:=Lib.hid (nameOf_any nm w3x (by omega))
   go_wp2_with fail
   ((with_reducible refine HF4x.out.mono ?_))
   rintro e w4x ⟨v4x,rfl,hvv4,hbb4⟩
   obtain ⟨a4x,n4x,c4x,rfl⟩:=hvv4.form
   have HK4x:=Lib.hid (HK3x.out.trans (Keep.of hbb4))
   have HC4x:=Lib.hid (HC3x.out.keep hbb4)
   have HT4x:=Lib.hid (hvv4.base (B':=0) (Nat.zero_le _))
   clear hvv4 hbb4 HF4x
   have HF5x:=Lib.hid (next_any C 6 w4x HC4x.out (by omega) (by omega))
   go_wp2_with fail
   ((with_reducible refine HF5x.out.mono ?_))
   rintro e w5x ⟨ka,rfl,hka,hcc5,hkk5⟩
   have hka' : (ka : Int) < 6:=hka
   have HT4xq5:=Lib.hid (HT4x.out.keep HC4x.out hkk5)
   have HK5x:=Lib.hid (HK4x.out.trans hkk5)
   have HC5x:=Lib.hid hcc5
   clear hcc5 hkk5 HF5x
   have HF6x:=Lib.hid (gInt_any ka w5x (by omega))
   go_wp2_with fail
   ((with_reducible refine HF6x.out.mono ?_))
   rintro e w6x ⟨v6x,rfl,hvv6,hbb6⟩
   obtain ⟨a6x,n6x,c6x,rfl⟩:=hvv6.form
   have HT4xq5q6:=Lib.hid (HT4xq5.out.below hbb6)
   have HK6x:=Lib.hid (HK5x.out.trans (Keep.of hbb6))
   have HC6x:=Lib.hid (HC5x.out.keep hbb6)
   have HT6x:=Lib.hid (hvv6.base (B':=0) (Nat.zero_le _))
   clear hvv6 hbb6 HF6x
   have HF7x:=Lib.hid (next_any C 9 w6x HC6x.out (by omega) (by omega))
   go_wp2_with fail
   ((with_reducible refine HF7x.out.mono ?_))
   rintro e w7x ⟨kb,rfl,hkb,hcc7,hkk7⟩
   have hkb' : (kb : Int) < 9:=hkb
   have HT4xq5q6q7:=Lib.hid (HT4xq5q6.out.keep HC6x.out hkk7)
   have HT6xq7:=Lib.hid (HT6x.out.keep HC6x.out hkk7)
   have HK7x:=Lib.hid (HK6x.out.trans hkk7)
   have HC7x:=Lib.hid hcc7
   clear hcc7 hkk7 HF7x
   have HF8x:=Lib.hid (gInt_any kb w7x (by omega))
   go_wp2_with fail
   ((with_reducible refine HF8x.out.mono ?_))
   rintro e w8x ⟨v8x,rfl,hvv8,hbb8⟩
   obtain ⟨a8x,n8x,c8x,rfl⟩:=hvv8.form
   have HT4xq5q6q7q8:=Lib.hid (HT4xq5q6q7.out.below hbb8)
   have HT6xq7q8:=Lib.hid (HT6xq7.out.below hbb8)
   have HK8x:=Lib.hid (HK7x.out.trans (Keep.of hbb8))
   have HC8x:=Lib.hid (HC7x.out.keep hbb8)
   have HT8x:=Lib.hid (hvv8.base (B':=0) (Nat.zero_le _))
   clear hvv8 hbb8 HF8x
   have HF9x:=Lib.hid (HDS.out w8x HC8x.out)
   unfold GPost at HF9x
   go_wp2_with fail
   ((with_reducible refine HF9x.out.mono ?_))
   rintro e w9x ⟨v9x,rfl,hvv9,hcc9,hkk9⟩
   obtain ⟨a9x,n9x,c9x,rfl⟩:=hvv9.form
   have HT4xq5q6q7q8q9:=Lib.hid (HT4xq5q6q7q8.out.keep HC8x.out hkk9)
   have HT6xq7q8q9:=Lib.hid (HT6xq7q8.out.keep HC8x.out hkk9)
   have HT8xq9:=Lib.hid (HT8x.out.keep HC8x.out hkk9)
   have HK9x:=Lib.hid (HK8x.out.trans hkk9)
   have HC9x:=Lib.hid hcc9
   have HT9x:=Lib.hid (hvv9.base (B':=0) (Nat.zero_le _))
   clear hvv9 hcc9 hkk9 HF9x
   have hal10 : Below w9x.heap.size w9x (w9x.alloc (.cells #[.slice a4x n4x c4x,.slice a6x n6x c6x,.slice a8x n8x c8x,.slice a9x n9x c9x] 24)):=(Below.refl _ _).alloc (Nat.le_refl _) _
   have HKL10:=Lib.hid (KSl.lit w9x [.slice a4x n4x c4x,.slice a6x n6x c6x,.slice a8x n8x c8x,.slice a9x n9x c9x] 4 rfl)
   have HT4xq5q6q7q8q9z:=Lib.hid (HT4xq5q6q7q8q9.out.below hal10)
   have HT6xq7q8q9z:=Lib.hid (HT6xq7q8q9.out.below hal10)
   have HT8xq9z:=Lib.hid (HT8xq9.out.below hal10)
   have HT9xz:=Lib.hid (HT9x.out.below hal10)
   have HCz10:=Lib.hid (HC9x.out.keep hal10)
   have HKz10:=Lib.hid (HK9x.out.trans (Keep.of hal10))
   have HF10x:=Lib.hid (kNode_any 12 _ [.slice a4x n4x c4x,.slice a6x n6x c6x,.slice a8x n8x c8x,.slice a9x n9x c9x] [1,1,1,B] (w9x.alloc (.cells #[.slice a4x n4x c4x,.slice a6x n6x c6x,.slice a8x n8x c8x,.slice a9x n9x c9x] 24)) (fun _ => nest_sum (B:=B) (K:=2 + B) (by simp only [List.sum_cons,List.sum_nil]; omega) hBH (by intro N hN; simp only [List.mem_cons,List.not_mem_nil,or_false] at hN; omega)) HKL10.out rfl (fun i h1 h2 => by
    match i,h1 with
    | 0,_ => exact HT4xq5q6q7q8q9z.out
    | 1,_ => exact HT6xq7q8q9z.out
    | 2,_ => exact HT8xq9z.out
    | 3,_ => exact HT9xz.out) (by simp) (by simp only [List.sum_cons,List.sum_nil]; omega))
   go_wp2_with fail
   ((with_reducible refine HF10x.out.mono ?_))
   rintro e w10x ⟨v10x,rfl,hvv10,hbb10⟩
   have HK10x:=Lib.hid (HKz10.out.trans (Keep.of hbb10))
   have HC10x:=Lib.hid (HCz10.out.keep hbb10)
   have HVF:=Lib.hid ((hvv10.base (B':=w.heap.size) HKz10.out.size).more (M:=N) (by first | (simp only [List.sum_cons,List.sum_nil]; omega) | (omega)))
   clear hvv10 hbb10
   go_wp2_with fail
   go_ret
   exact ⟨_,rfl,HVF.out,HC10x.out,HK10x.out⟩
  ·have hB0 : Below w3x.heap.size w3x (w3x.alloc scO):=(Below.refl _ _).alloc (Nat.le_refl _) _
   have HCs:=Lib.hid (HC3x.out.keep hB0)
   have HKs:=Lib.hid (HK3x.out.trans (Keep.of hB0))
   have HAs : Hid ((w3x.alloc scO).heap[w3x.heap.size]? = some scO):=Lib.hid (heap_alloc_new _ _)
   have hCAs : C < w3x.heap.size:=HC3x.out.lt
   clear hB0
   have HNX:=Lib.hid (next_any C 5 (w3x.alloc scO) HCs.out (by omega) (by omega))
   go_wp2_with fail
   ((with_reducible refine HNX.out.mono ?_))
   rintro e ws ⟨ks,rfl,hks,hcs,hkks⟩
   have hAs2 : ws.heap[w3x.heap.size]? = some scO:=(hkks.block _ (lt_of_block HAs.out) (fun e => by injection e with e; omega)).trans HAs.out
   obtain ⟨x,hx,e0⟩:=sc_cell hAs2 ks (by omega)
   have hks5 : (ks : Int) < 5:=hks
   have HKt:=Lib.hid (HKs.out.trans hkks)
   have HCt:=Lib.hid hcs
   clear hcs hkks HNX HCs HKs hAs2 HAs
   have HF4x:=Lib.hid (nameOf_any x ws (by omega))
   go_wp2_with fail
   ((with_reducible refine HF4x.out.mono ?_))
   rintro e w4x ⟨v4x,rfl,hvv4,hbb4⟩
   obtain ⟨a4x,n4x,c4x,rfl⟩:=hvv4.form
   have HK4x:=Lib.hid (HKt.out.trans (Keep.of hbb4))
   have HC4x:=Lib.hid (HCt.out.keep hbb4)
   have HT4x:=Lib.hid (hvv4.base (B':=0) (Nat.zero_le _))
   clear hvv4 hbb4 HF4x
   have HF5x:=Lib.hid (HDS.out w4x HC4x.out)
   unfold GPost at HF5x
   go_wp2_with fail
   ((with_reducible refine HF5x.out.mono ?_))
   rintro e w5x ⟨v5x,rfl,hvv5,hcc5,hkk5⟩
   obtain ⟨a5x,n5x,c5x,rfl⟩:=hvv5.form
   have HT4xq5:=Lib.hid (HT4x.out.keep HC4x.out hkk5)
   have HK5x:=Lib.hid (HK4x.out.trans hkk5)
   have HC5x:=Lib.hid hcc5
   have HT5x:=Lib.hid (hvv5.base (B':=0) (Nat.zero_le _))
   clear hvv5 hcc5 hkk5 HF5x
   have hal6 : Below w5x.heap.size w5x (w5x.alloc (.cells #[.slice a4x n4x c4x,.slice a5x n5x c5x] 24)):=(Below.refl _ _).alloc (Nat.le_refl _) _
   have HKL6:=Lib.hid (KSl.lit w5x [.slice a4x n4x c4x,.slice a5x n5x c5x] 2 rfl)
   have HT4xq5z:=Lib.hid (HT4xq5.out.below hal6)
   have HT5xz:=Lib.hid (HT5x.out.below hal6)
   have HCz6:=Lib.hid (HC5x.out.keep hal6)
   have HKz6:=Lib.hid (HK5x.out.trans (Keep.of hal6))
   have HF6x:=Lib.hid (kNode_any 10 _ [.slice a4x n4x c4x,.slice a5x n5x c5x] [1,B] (w5x.alloc (.cells #[.slice a4x n4x c4x,.slice a5x n5x c5x] 24)) (fun _ => nest_sum (B:=B) (K:=2 + B) (by simp only [List.sum_cons,List.sum_nil]; omega) hBH (by intro N hN; simp only [List.mem_cons,List.not_mem_nil,or_false] at hN; omega)) HKL6.out rfl (fun i h1 h2 => by
    match i,h1 with
    | 0,_ => exact HT4xq5z.out
    | 1,_ => exact HT5xz.out) (by simp) (by simp only [List.sum_cons,List.sum_nil]; omega))
   go_wp2_with fail
   ((with_reducible refine HF6x.out.mono ?_))
   rintro e w6x ⟨v6x,rfl,hvv6,hbb6⟩
   have HK6x:=Lib.hid (HKz6.out.trans (Keep.of hbb6))
   have HC6x:=Lib.hid (HCz6.out.keep hbb6)
   have HVF:=Lib.hid ((hvv6.base (B':=w.heap.size) HKz6.out.size).more (M:=N) (by first | (simp only [List.sum_cons,List.sum_nil]; omega) | (omega)))
   clear hvv6 hbb6
   go_wp2_with fail
   go_ret
   exact ⟨_,rfl,HVF.out,HC6x.out,HK6x.out⟩
 ·have HF4x:=Lib.hid (HME.out nm (by omega) w3x HC3x.out)
  unfold GPost at HF4x
  go_wp2_with fail
  ((with_reducible refine HF4x.out.mono ?_))
  rintro e w4x ⟨v4x,rfl,hvv4,hcc4,hkk4⟩
  have hbb4:=hkk4
  have HK4x:=Lib.hid (HK3x.out.trans hkk4)
  have HC4x:=Lib.hid hcc4
  clear hcc4 hkk4
  have HVF:=Lib.hid ((hvv4.base (B':=w.heap.size) HK3x.out.size).more (M:=N) (by first | (simp only [List.sum_cons,List.sum_nil]; omega) | (omega)))
  clear hvv4 hbb4
  go_wp2_with fail
  go_ret
  exact ⟨_,rfl,HVF.out,HC4x.out,HK4x.out⟩
 ·have HF4x:=Lib.hid (region_any C nm w3x HC3x.out (by omega))
  unfold GPost at HF4x
  go_wp2_with fail
  ((with_reducible refine HF4x.out.mono ?_))
  rintro e w4x ⟨v4x,rfl,hvv4,hcc4,hkk4⟩
  have hbb4:=hkk4
  have HK4x:=Lib.hid (HK3x.out.trans hkk4)
  have HC4x:=Lib.hid hcc4
  clear hcc4 hkk4
  have HVF:=Lib.hid ((hvv4.base (B':=w.heap.size) HK3x.out.size).more (M:=N) (by first | (simp only [List.sum_cons,List.sum_nil]; omega) | (omega)))
  clear hvv4 hbb4
  go_wp2_with fail
  go_ret
  exact ⟨_,rfl,HVF.out,HC4x.out,HK4x.out⟩
 ·have hB0 : Below w3x.heap.size w3x (w3x.alloc (.cells #[.string ⟨nm.toArray⟩] 9)):=(Below.refl _ _).alloc (Nat.le_refl _) _
  have HCs:=Lib.hid (HC3x.out.keep hB0)
  have HKs:=Lib.hid (HK3x.out.trans (Keep.of hB0))
  have HSA:=Lib.hid (SArg.lit C w3x [nm] 1 rfl (by intro s hs; simp only [List.mem_cons,List.not_mem_nil,or_false] at hs; subst hs; omega) HC3x.out.lt)
  clear hB0
  have HNX:=Lib.hid (next_any C 2 (w3x.alloc (.cells #[.string ⟨nm.toArray⟩] 9)) HCs.out (by omega) (by omega))
  go_wp2_with fail
  ((with_reducible refine HNX.out.mono ?_))
  rintro e ws ⟨ks,rfl,hks,hcs,hkks⟩
  have HSB:=Lib.hid (HSA.out.keep hkks)
  have HKt:=Lib.hid (HKs.out.trans hkks)
  have HCt:=Lib.hid hcs
  clear hcs hkks HNX HCs HKs HSA
  have HF4x:=Lib.hid (gfields_two C [nm] _ ((ks : Int) == 0) ws HCt.out HSB.out (by simp))
  unfold GPost at HF4x
  go_wp2_with fail
  ((with_reducible refine HF4x.out.mono ?_))
  rintro e w4x ⟨v4x,rfl,hvv4,hcc4,hkk4⟩
  have hbb4:=hkk4
  have HK4x:=Lib.hid (HKt.out.trans hkk4)
  have HC4x:=Lib.hid hcc4
  clear hcc4 hkk4
  have HVF:=Lib.hid ((hvv4.base (B':=w.heap.size) HKt.out.size).more (M:=N) (by first | (simp only [List.sum_cons,List.sum_nil]; omega) | (omega)))
  clear hvv4 hbb4
  go_wp2_with fail
  go_ret
  exact ⟨_,rfl,HVF.out,HC4x.out,HK4x.out⟩
 ·have HF4x:=Lib.hid (nameOf_any nm w3x (by omega))
  go_wp2_with fail
  ((with_reducible refine HF4x.out.mono ?_))
  rintro e w4x ⟨v4x,rfl,hvv4,hbb4⟩
  obtain ⟨a4x,n4x,c4x,rfl⟩:=hvv4.form
  have HK4x:=Lib.hid (HK3x.out.trans (Keep.of hbb4))
  have HC4x:=Lib.hid (HC3x.out.keep hbb4)
  have HT4x:=Lib.hid (hvv4.base (B':=0) (Nat.zero_le _))
  clear hvv4 hbb4 HF4x
  have HF5x:=Lib.hid (next_any C 18 w4x HC4x.out (by omega) (by omega))
  go_wp2_with fail
  ((with_reducible refine HF5x.out.mono ?_))
  rintro e w5x ⟨kx,rfl,hkx,hcc5,hkk5⟩
  have hkx' : (kx : Int) < 18:=hkx
  have HT4xq5:=Lib.hid (HT4x.out.keep HC4x.out hkk5)
  have HK5x:=Lib.hid (HK4x.out.trans hkk5)
  have HC5x:=Lib.hid hcc5
  clear hcc5 hkk5 HF5x
  have HF6x:=Lib.hid (gInt_any kx w5x (by omega))
  go_wp2_with fail
  ((with_reducible refine HF6x.out.mono ?_))
  rintro e w6x ⟨v6x,rfl,hvv6,hbb6⟩
  obtain ⟨a6x,n6x,c6x,rfl⟩:=hvv6.form
  have HT4xq5q6:=Lib.hid (HT4xq5.out.below hbb6)
  have HK6x:=Lib.hid (HK5x.out.trans (Keep.of hbb6))
  have HC6x:=Lib.hid (HC5x.out.keep hbb6)
  have HT6x:=Lib.hid (hvv6.base (B':=0) (Nat.zero_le _))
  clear hvv6 hbb6 HF6x
  have hal7 : Below w6x.heap.size w6x (w6x.alloc (.cells #[.slice a4x n4x c4x,.slice a6x n6x c6x] 24)):=(Below.refl _ _).alloc (Nat.le_refl _) _
  have HKL7:=Lib.hid (KSl.lit w6x [.slice a4x n4x c4x,.slice a6x n6x c6x] 2 rfl)
  have HT4xq5q6z:=Lib.hid (HT4xq5q6.out.below hal7)
  have HT6xz:=Lib.hid (HT6x.out.below hal7)
  have HCz7:=Lib.hid (HC6x.out.keep hal7)
  have HKz7:=Lib.hid (HK6x.out.trans (Keep.of hal7))
  have HF7x:=Lib.hid (kNode_any 20 _ [.slice a4x n4x c4x,.slice a6x n6x c6x] [1,1] (w6x.alloc (.cells #[.slice a4x n4x c4x,.slice a6x n6x c6x] 24)) (fun h => by unfold NestP at h; omega) HKL7.out rfl (fun i h1 h2 => by
   match i,h1 with
   | 0,_ => exact HT4xq5q6z.out
   | 1,_ => exact HT6xz.out) (by simp) (by simp only [List.sum_cons,List.sum_nil]; omega))
  go_wp2_with fail
  ((with_reducible refine HF7x.out.mono ?_))
  rintro e w7x ⟨v7x,rfl,hvv7,hbb7⟩
  have HK7x:=Lib.hid (HKz7.out.trans (Keep.of hbb7))
  have HC7x:=Lib.hid (HCz7.out.keep hbb7)
  have HVF:=Lib.hid ((hvv7.base (B':=w.heap.size) HKz7.out.size).more (M:=N) (by first | (simp only [List.sum_cons,List.sum_nil]; omega) | (omega)))
  clear hvv7 hbb7
  go_wp2_with fail
  go_ret
  exact ⟨_,rfl,HVF.out,HC7x.out,HK7x.out⟩
 ·have HF4x:=Lib.hid (nameOf_any nm w3x (by omega))
  go_wp2_with fail
  ((with_reducible refine HF4x.out.mono ?_))
  rintro e w4x ⟨v4x,rfl,hvv4,hbb4⟩
  obtain ⟨a4x,n4x,c4x,rfl⟩:=hvv4.form
  have HK4x:=Lib.hid (HK3x.out.trans (Keep.of hbb4))
  have HC4x:=Lib.hid (HC3x.out.keep hbb4)
  have HT4x:=Lib.hid (hvv4.base (B':=0) (Nat.zero_le _))
  clear hvv4 hbb4 HF4x
  have hal5 : Below w4x.heap.size w4x (w4x.alloc (.cells #[.slice a4x n4x c4x] 24)):=(Below.refl _ _).alloc (Nat.le_refl _) _
  have HKL5:=Lib.hid (KSl.lit w4x [.slice a4x n4x c4x] 1 rfl)
  have HT4xz:=Lib.hid (HT4x.out.below hal5)
  have HCz5:=Lib.hid (HC4x.out.keep hal5)
  have HKz5:=Lib.hid (HK4x.out.trans (Keep.of hal5))
  have HF5x:=Lib.hid (kNode_any 21 _ [.slice a4x n4x c4x] [1] (w4x.alloc (.cells #[.slice a4x n4x c4x] 24)) (fun h => by unfold NestP at h; omega) HKL5.out rfl (fun i h1 h2 => by
   match i,h1 with
   | 0,_ => exact HT4xz.out) (by simp) (by simp only [List.sum_cons,List.sum_nil]; omega))
  go_wp2_with fail
  ((with_reducible refine HF5x.out.mono ?_))
  rintro e w5x ⟨v5x,rfl,hvv5,hbb5⟩
  have HK5x:=Lib.hid (HKz5.out.trans (Keep.of hbb5))
  have HC5x:=Lib.hid (HCz5.out.keep hbb5)
  have HVF:=Lib.hid ((hvv5.base (B':=w.heap.size) HKz5.out.size).more (M:=N) (by first | (simp only [List.sum_cons,List.sum_nil]; omega) | (omega)))
  clear hvv5 hbb5
  go_wp2_with fail
  go_ret
  exact ⟨_,rfl,HVF.out,HC5x.out,HK5x.out⟩
 ·rcases hks with rfl | rfl | ⟨rfl | rfl | rfl,hx⟩
  all_goals
   have HF4x:=Lib.hid (nameOf_any nm w3x (by omega))
   go_wp2_with fail
   ((with_reducible refine HF4x.out.mono ?_))
   rintro e w4x ⟨v4x,rfl,hvv4,hbb4⟩
   obtain ⟨a4x,n4x,c4x,rfl⟩:=hvv4.form
   have HK4x:=Lib.hid (HK3x.out.trans (Keep.of hbb4))
   have HC4x:=Lib.hid (HC3x.out.keep hbb4)
   have HT4x:=Lib.hid (hvv4.base (B':=0) (Nat.zero_le _))
   clear hvv4 hbb4 HF4x
   have HF5x:=Lib.hid (HDA.out w4x HC4x.out)
   unfold GPost at HF5x
   go_wp2_with fail
   ((with_reducible refine HF5x.out.mono ?_))
   rintro e w5x ⟨v5x,rfl,hvv5,hcc5,hkk5⟩
   obtain ⟨a5x,n5x,c5x,rfl⟩:=hvv5.form
   have HT4xq5:=Lib.hid (HT4x.out.keep HC4x.out hkk5)
   have HK5x:=Lib.hid (HK4x.out.trans hkk5)
   have HC5x:=Lib.hid hcc5
   have HT5x:=Lib.hid (hvv5.base (B':=0) (Nat.zero_le _))
   clear hvv5 hcc5 hkk5 HF5x
   have hal6 : Below w5x.heap.size w5x (w5x.alloc (.cells #[.slice a4x n4x c4x,.slice a5x n5x c5x] 24)):=(Below.refl _ _).alloc (Nat.le_refl _) _
   have HKL6:=Lib.hid (KSl.lit w5x [.slice a4x n4x c4x,.slice a5x n5x c5x] 2 rfl)
   have HT4xq5z:=Lib.hid (HT4xq5.out.below hal6)
   have HT5xz:=Lib.hid (HT5x.out.below hal6)
   have HCz6:=Lib.hid (HC5x.out.keep hal6)
   have HKz6:=Lib.hid (HK5x.out.trans (Keep.of hal6))
   have HF6x:=Lib.hid (kNode_any 13 _ [.slice a4x n4x c4x,.slice a5x n5x c5x] [1,66] (w5x.alloc (.cells #[.slice a4x n4x c4x,.slice a5x n5x c5x] 24)) (fun h => by unfold NestP at h; omega) HKL6.out rfl (fun i h1 h2 => by
    match i,h1 with
    | 0,_ => exact HT4xq5z.out
    | 1,_ => exact HT5xz.out) (by simp) (by simp only [List.sum_cons,List.sum_nil]; omega))
   go_wp2_with fail
   ((with_reducible refine HF6x.out.mono ?_))
   rintro e w6x ⟨v6x,rfl,hvv6,hbb6⟩
   have HK6x:=Lib.hid (HKz6.out.trans (Keep.of hbb6))
   have HC6x:=Lib.hid (HCz6.out.keep hbb6)
   have HVF:=Lib.hid ((hvv6.base (B':=w.heap.size) HKz6.out.size).more (M:=N) (by first | (simp only [List.sum_cons,List.sum_nil]; omega) | (omega)))
   clear hvv6 hbb6
   go_wp2_with fail
   go_ret
   exact ⟨_,rfl,HVF.out,HC6x.out,HK6x.out⟩
set_option maxRecDepth 100000 in
set_option maxHeartbeats 16000000 in
theorem decls_step (C : Nat) (dep : Int) (K N : Nat) (hd : -10 ≤ dep ∧ dep ≤ 10) (hK : K ≤ 100000) (hN : 1 + 3 * K ≤ N) (ih : DeclOk C dep K) : DeclsOk C dep N:=by
 intro w hc
 have HE:=Lib.hid ih
 unfold DeclOk at HE
 have HCW:=Lib.hid hc
 have HN:=Lib.hid (next_any C 4 w hc (by omega) (by omega))
 clear hc ih
 go_enter Tryz.func58,Tryz.ntmps58
 go_wp2_with fail
 ((with_reducible refine HN.out.mono ?_))
 rintro e w2 ⟨k2,rfl,hk2,hc3,hk3⟩
 have HK3:=Lib.hid hk3
 have HC3:=Lib.hid hc3
 clear hc3 hk3 HN
 go_wp2_with fail
 go_loopw [5,6] (fun x i wr => ∃ (v : Value) (vs : List Value) (q : Nat),v = x ∧ i = .int .i64 q ∧ q + vs.length ≤ 3 ∧ Hid (KRow wr w.heap.size v vs) ∧ Hid (NVs wr K vs) ∧ Hid (CSt wr C) ∧ Hid (Keep C w wr)) (fun _ i _ => (intOf i).toNat)
 case atStart => exact ⟨_,[],k2,rfl,rfl,by simp; omega,Lib.hid (KRow.nil _ _),Lib.hid (NVs.nil _ _),HC3,HK3⟩
 case round =>
  clear HC3 HK3
  obtain ⟨v,vs,q,rfl,rfl,hq,HR,HV,HC,HK⟩:=hrel
  obtain ⟨w3,rfl⟩ : ∃ y : World,y = wr:=⟨_,rfl⟩
  by_cases hq0 : 0 < q
  ·have hq1 : (0 : Int) < (q : Int):=by omega
   have HLF:=Lib.hid (left_any C w3 HC.out)
   go_wp2_with fail
   ((with_reducible refine HLF.out.mono ?_))
   rintro e w4 ⟨lb,rfl,hc4,hkk4⟩
   have HR4:=Lib.hid (HR.out.keep HC.out hkk4)
   have HV4:=Lib.hid (HV.out.keep HC.out hkk4)
   have HK4:=Lib.hid (HK.out.trans hkk4)
   have HC4:=Lib.hid hc4
   clear hc4 hkk4 HR HV HK HC HLF
   cases lb with
   | false =>
     have HMUL : Hid (vs.length * K ≤ 3 * K):=Lib.hid (Nat.mul_le_mul_right K (by omega))
     obtain ⟨av,cv,rfl⟩:=HR4.out.form
     have HG:=Lib.hid (kNode_any 4 _ vs (List.replicate vs.length K) w4 (fun h => by unfold NestP at h; omega) HR4.out.sl (by simp) HV4.out.each (by omega) (by rw [sum_rep]; have:=HMUL.out; omega))
     rw [sum_rep] at HG
     go_wp2_with fail
     ((with_reducible refine HG.out.mono ?_))
     rintro e w9 ⟨v9,rfl,hv9,hb9⟩
     have HV9:=Lib.hid ((hv9.base (B':=w.heap.size) HK4.out.size).more (M:=N) (by have:=HMUL.out; omega))
     have HC9:=Lib.hid (HC4.out.keep hb9)
     have HK9:=Lib.hid (HK4.out.trans (Keep.of hb9))
     clear hv9 hb9
     go_wp2_with fail
     go_ret
     exact ⟨_,rfl,HV9.out,HC9.out,HK9.out⟩
   | true =>
     have HF1x:=Lib.hid (HE.out w4 HC4.out)
     unfold GPost at HF1x
     go_wp2_with fail
     ((with_reducible refine HF1x.out.mono ?_))
     rintro e w1x ⟨v1x,rfl,hvv1,hcc1,hkk1⟩
     obtain ⟨a1x,n1x,c1x,rfl⟩:=hvv1.form
     have HRw1_0:=Lib.hid (HR4.out.keep HC4.out hkk1)
     have HVw1_0:=Lib.hid (HV4.out.keep HC4.out hkk1)
     clear HR4 HV4
     have HK1x:=Lib.hid (HK4.out.trans hkk1)
     have HC1x:=Lib.hid hcc1
     have HT1x:=Lib.hid (hvv1.base (B':=0) (Nat.zero_le _))
     clear hvv1 hcc1 hkk1 HF1x
     have hal2 : Below w1x.heap.size w1x (w1x.alloc (.cells #[.slice a1x n1x c1x] 24)):=(Below.refl _ _).alloc (Nat.le_refl _) _
     have hone2:=HT1x.out.one
     have HTb2:=Lib.hid (((HT1x.out.below hal2).base (B':=0) (Nat.zero_le _)).more (M:=K) (by first | (simp only [List.sum_cons,List.sum_nil]; omega) | omega))
     have HRb2_0:=Lib.hid (HRw1_0.out.below hal2)
     have HVb2_0:=Lib.hid (HVw1_0.out.below hal2)
     clear HRw1_0 HVw1_0
     have HCb2:=Lib.hid (HC1x.out.keep hal2)
     have HKb2:=Lib.hid (HK1x.out.trans (Keep.of hal2))
     have HNN2 : Hid ((w1x.alloc (.cells #[.slice a1x n1x c1x] 24)).heap[w1x.heap.size]? = some (.cells #[.slice a1x n1x c1x] 24 (0,0))):=Lib.hid (heap_alloc_new _ _)
     clear hal2
     go_wp2_with (at_builtin; refine wpList_append_kid rfl _ _ rfl w.heap.size v vs rfl HRb2_0.out w1x.heap.size (.slice a1x n1x c1x) hone2 rfl HNN2.out (by first | omega | (simp only [List.length_append,List.length_singleton]; omega)) HKb2.out.size ?_; intro v2x w2x ho hg; have HO2:=Lib.hid ho; have HG2:=Lib.hid hg; clear ho hg)
     have HVc2_0:=Lib.hid ((HVb2_0.out.snoc HTb2.out).grownRow HRb2_0.out HG2.out)
     have HCc2:=Lib.hid (HCb2.out.grown HG2.out (fun g h => by have:=own_row HRb2_0.out h; have:=HCW.out.lt; omega))
     have HKc2:=Lib.hid (HKb2.out.grown HG2.out (fun g h => own_row HRb2_0.out h))
     clear HCb2 HKb2 HNN2 HG2 hone2 HTb2 HRb2_0 HVb2_0
     go_wp2_with fail
     go_roundw
     case rel => first | exact ⟨(vs ++ [.slice a1x n1x c1x]),q - 1,by go_num,by simp only [List.length_append,List.length_singleton]; omega,HO2,HVc2_0,HCc2,HKc2⟩ | exact ⟨_,(vs ++ [.slice a1x n1x c1x]),q - 1,rfl,by go_num,by simp only [List.length_append,List.length_singleton]; omega,HO2,HVc2_0,HCc2,HKc2⟩
     case measure => simp [intOf]; omega
  ·have hq1 : ¬ (0 : Int) < (q : Int):=by omega
   have HMUL : Hid (vs.length * K ≤ 3 * K):=Lib.hid (Nat.mul_le_mul_right K (by omega))
   obtain ⟨av,cv,rfl⟩:=HR.out.form
   have HG:=Lib.hid (kNode_any 4 _ vs (List.replicate vs.length K) w3 (fun h => by unfold NestP at h; omega) HR.out.sl (by simp) HV.out.each (by omega) (by rw [sum_rep]; have:=HMUL.out; omega))
   rw [sum_rep] at HG
   go_wp2_with fail
   ((with_reducible refine HG.out.mono ?_))
   rintro e w9 ⟨v9,rfl,hv9,hb9⟩
   have HV9:=Lib.hid ((hv9.base (B':=w.heap.size) HK.out.size).more (M:=N) (by have:=HMUL.out; omega))
   have HC9:=Lib.hid (HC.out.keep hb9)
   have HK9:=Lib.hid (HK.out.trans (Keep.of hb9))
   clear hv9 hb9
   go_wp2_with fail
   go_ret
   exact ⟨_,rfl,HV9.out,HC9.out,HK9.out⟩
theorem stmt_0 (C : Nat) : StmtOk C 0 43:=stmt_step C 0 21 1 0 43 (by omega) (by omega) (by omega) (expr_1 C) (expr_leaf C 0 (by omega)) (expr_leaf C 0 (by omega)) (target_leaf C 0 (by omega)) (call_0 C) (fun a w h0 h7 hc => (sync_0 C a w h0 h7 hc).mono fun _ _ h => h.more (by omega)) (fun h => by omega)
theorem block_0 (C : Nat) : BlockOk C 0 130:=block_step C 0 43 130 (by omega) (by omega) (by omega) (stmt_0 C)
theorem stmt_1 (C : Nat) : StmtOk C 1 325:=stmt_step C 1 64 43 130 325 (by omega) (by omega) (by omega) (expr_1 C) (expr_leaf C 0 (by omega)) (expr_1 C) (target_1 C) (call_1 C 325 (by omega)) (sync_1 C 325 (by omega)) (fun h => ⟨block_0 C,by omega,by omega,by decide⟩)
theorem block_1 (C : Nat) : BlockOk C 1 976:=block_step C 1 325 976 (by omega) (by omega) (by omega) (stmt_1 C)
theorem stmt_2 (C : Nat) : StmtOk C 2 2017:=stmt_step C 2 193 129 976 2017 (by omega) (by omega) (by omega) (expr_1 C) (expr_leaf C 0 (by omega)) (expr_2 C) (target_2 C) (call_2 C 2017 (by omega)) (sync_2 C 2017 (by omega)) (fun h => ⟨block_1 C,by omega,by omega,by decide⟩)
theorem block_2 (C : Nat) : BlockOk C 2 6052:=block_step C 2 2017 6052 (by omega) (by omega) (by omega) (stmt_2 C)
theorem decl_0 (C : Nat) : DeclOk C 0 6057:=decl_step C 0 0 6057 (by omega) (by omega) (by omega) (block_2 C) (data_ok C 2 (by omega)) (fun h => by omega)
theorem decls_0 (C : Nat) : DeclsOk C 0 18172:=decls_step C 0 6057 18172 (by omega) (by omega) (by omega) (decl_0 C)
theorem decl_1 (C : Nat) : DeclOk C 1 18176:=decl_step C 1 18172 18176 (by omega) (by omega) (by omega) (block_2 C) (data_ok C 2 (by omega)) (fun h => ⟨decls_0 C,by omega,by omega,by decide⟩)
theorem decls_1 (C : Nat) : DeclsOk C 1 54529:=decls_step C 1 18176 54529 (by omega) (by omega) (by omega) (decl_1 C)
theorem decl_2 (C : Nat) : DeclOk C 2 54533:=decl_step C 2 54529 54533 (by omega) (by omega) (by omega) (block_2 C) (data_ok C 2 (by omega)) (fun h => ⟨decls_1 C,by omega,by omega,by decide⟩)
end Go.Proofs.YtoohondkpddmcaaGreatDoor
