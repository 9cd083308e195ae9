/- Pi Pj -/
import Derived.Test.YtoohondkpddmcaaGreatDoorVbs
set_option linter.unusedVariables false
set_option linter.unusedSimpArgs false
namespace Go.Proofs.YtoohondkpddmcaaGreatDoor
section
open Go.RowKit
attribute [local go_sem] ByteArray.mk_append_mk bs_get bs_cut bs_end
abbrev spO : Obj:=.cells #[.int .u64 0,.int .u64 1,.int .u64 3] 32
theorem sp_cell {w : World} {A : Nat} (h : w.heap[A]? = some spO) (k : Nat) (hk : k < 3) : ∃ x : Int,(0 ≤ x ∧ x ≤ 18446744073709551615) ∧ w.cell? ⟨A,k,none⟩ = some (.int .u64 x):=by
 match k,hk with
 | 0,_ => exact ⟨0,by omega,cell_of_row w A 0 _ _ (0,0) h⟩
 | 1,_ => exact ⟨1,by omega,cell_of_row w A 1 _ _ (0,0) h⟩
 | 2,_ => exact ⟨3,by omega,cell_of_row w A 2 _ _ (0,0) h⟩
set_option maxRecDepth 100000 in
set_option maxHeartbeats 8000000 in
theorem region_any (C : Nat) (s : List UInt8) (w : World) (hc : CSt w C) (hs : s.length ≤ 6) :
  Calls Tryz.prog 44 #[.pointer (some ⟨C,0,none⟩),.string ⟨s.toArray⟩] w (GPost C 5 w):=by
 have hB : Below w.heap.size w (w.alloc spO):=(Below.refl _ _).alloc (Nat.le_refl _) _
 have HC1:=Lib.hid (hc.keep hB)
 have HK1:=Lib.hid (Keep.of (C:=C) hB)
 have HA : Hid ((w.alloc spO).heap[w.heap.size]? = some spO):=Lib.hid (heap_alloc_new _ _)
 have hCA : C < w.heap.size:=hc.lt
 have HNX:=Lib.hid (next_any C 3 (w.alloc spO) HC1.out (by omega) (by omega))
 clear hB hc
 go_enter Tryz.func44,Tryz.ntmps44
 go_wp2_with fail
 ((with_reducible refine HNX.out.mono ?_))
 rintro e w4 ⟨k4,rfl,hk4,hc4,hkk4⟩
 have hA2 : w4.heap[w.heap.size]? = some spO:=(hkk4.block _ (lt_of_block HA.out) (fun e => by injection e with e; omega)).trans HA.out
 obtain ⟨x,hx,e0⟩:=sp_cell hA2 k4 (by omega)
 have hk45 : (k4 : Int) < 3:=hk4
 have HK4:=Lib.hid (HK1.out.trans hkk4)
 have HC4:=Lib.hid hc4
 clear hc4 hkk4 HNX HC1 HK1 hA2 HA
 have HF1x:=Lib.hid (nameOf_any s w4 hs)
 go_wp2_with fail
 ((with_reducible refine HF1x.out.mono ?_))
 rintro e w1x ⟨v1x,rfl,hvv1,hbb1⟩
 obtain ⟨a1x,n1x,c1x,rfl⟩:=hvv1.form
 have HK1x:=Lib.hid (HK4.out.trans (Keep.of hbb1))
 have HC1x:=Lib.hid (HC4.out.keep hbb1)
 have HT1x:=Lib.hid (hvv1.base (B':=0) (Nat.zero_le _))
 clear hvv1 hbb1 HF1x
 have HF2x:=Lib.hid (gInt_any x w1x hx)
 go_wp2_with fail
 ((with_reducible refine HF2x.out.mono ?_))
 rintro e w2x ⟨v2x,rfl,hvv2,hbb2⟩
 obtain ⟨a2x,n2x,c2x,rfl⟩:=hvv2.form
 have HT1xq2:=Lib.hid (HT1x.out.below hbb2)
 have HK2x:=Lib.hid (HK1x.out.trans (Keep.of hbb2))
 have HC2x:=Lib.hid (HC1x.out.keep hbb2)
 have HT2x:=Lib.hid (hvv2.base (B':=0) (Nat.zero_le _))
 clear hvv2 hbb2 HF2x
 have HF3x:=Lib.hid (next_any C 4 w2x HC2x.out (by omega) (by omega))
 go_wp2_with fail
 ((with_reducible refine HF3x.out.mono ?_))
 rintro e w3x ⟨ka,rfl,hka,hcc3,hkk3⟩
 have hka' : (ka : Int) < 4:=hka
 have HT1xq2q3:=Lib.hid (HT1xq2.out.keep HC2x.out hkk3)
 have HT2xq3:=Lib.hid (HT2x.out.keep HC2x.out hkk3)
 have HK3x:=Lib.hid (HK2x.out.trans hkk3)
 have HC3x:=Lib.hid hcc3
 clear hcc3 hkk3 HF3x
 have HF4x:=Lib.hid (gInt_any (8 * (ka : Int)) w3x (by omega))
 go_wp2_with fail
 ((with_reducible refine HF4x.out.mono ?_))
 rintro e w4x ⟨v4x,rfl,hvv4,hbb4⟩
 obtain ⟨a4x,n4x,c4x,rfl⟩:=hvv4.form
 have HT1xq2q3q4:=Lib.hid (HT1xq2q3.out.below hbb4)
 have HT2xq3q4:=Lib.hid (HT2xq3.out.below hbb4)
 have HK4x:=Lib.hid (HK3x.out.trans (Keep.of hbb4))
 have HC4x:=Lib.hid (HC3x.out.keep hbb4)
 have HT4x:=Lib.hid (hvv4.base (B':=0) (Nat.zero_le _))
 clear hvv4 hbb4 HF4x
 have HF5x:=Lib.hid (next_any C 32 w4x HC4x.out (by omega) (by omega))
 go_wp2_with fail
 ((with_reducible refine HF5x.out.mono ?_))
 rintro e w5x ⟨kb,rfl,hkb,hcc5,hkk5⟩
 have hkb' : (kb : Int) < 32:=hkb
 have HT1xq2q3q4q5:=Lib.hid (HT1xq2q3q4.out.keep HC4x.out hkk5)
 have HT2xq3q4q5:=Lib.hid (HT2xq3q4.out.keep HC4x.out hkk5)
 have HT4xq5:=Lib.hid (HT4x.out.keep HC4x.out hkk5)
 have HK5x:=Lib.hid (HK4x.out.trans hkk5)
 have HC5x:=Lib.hid hcc5
 clear hcc5 hkk5 HF5x
 have HF6x:=Lib.hid (gInt_any (16 + (kb : Int)) w5x (by omega))
 go_wp2_with fail
 ((with_reducible refine HF6x.out.mono ?_))
 rintro e w6x ⟨v6x,rfl,hvv6,hbb6⟩
 obtain ⟨a6x,n6x,c6x,rfl⟩:=hvv6.form
 have HT1xq2q3q4q5q6:=Lib.hid (HT1xq2q3q4q5.out.below hbb6)
 have HT2xq3q4q5q6:=Lib.hid (HT2xq3q4q5.out.below hbb6)
 have HT4xq5q6:=Lib.hid (HT4xq5.out.below hbb6)
 have HK6x:=Lib.hid (HK5x.out.trans (Keep.of hbb6))
 have HC6x:=Lib.hid (HC5x.out.keep hbb6)
 have HT6x:=Lib.hid (hvv6.base (B':=0) (Nat.zero_le _))
 clear hvv6 hbb6 HF6x
 have hal7 : Below w6x.heap.size w6x (w6x.alloc (.cells #[.slice a1x n1x c1x,.slice a2x n2x c2x,.slice a4x n4x c4x,.slice a6x n6x c6x] 24)):=(Below.refl _ _).alloc (Nat.le_refl _) _
 have HKL7:=Lib.hid (KSl.lit w6x [.slice a1x n1x c1x,.slice a2x n2x c2x,.slice a4x n4x c4x,.slice a6x n6x c6x] 4 rfl)
 have HT1xq2q3q4q5q6z:=Lib.hid (HT1xq2q3q4q5q6.out.below hal7)
 have HT2xq3q4q5q6z:=Lib.hid (HT2xq3q4q5q6.out.below hal7)
 have HT4xq5q6z:=Lib.hid (HT4xq5q6.out.below hal7)
 have HT6xz:=Lib.hid (HT6x.out.below hal7)
 have HCz7:=Lib.hid (HC6x.out.keep hal7)
 have HKz7:=Lib.hid (HK6x.out.trans (Keep.of hal7))
 have HF7x:=Lib.hid (kNode_any 15 _ [.slice a1x n1x c1x,.slice a2x n2x c2x,.slice a4x n4x c4x,.slice a6x n6x c6x] [1,1,1,1] (w6x.alloc (.cells #[.slice a1x n1x c1x,.slice a2x n2x c2x,.slice a4x n4x c4x,.slice a6x n6x c6x] 24)) (fun h => by unfold NestP at h; omega) HKL7.out rfl (fun i h1 h2 => by
  match i,h1 with
  | 0,_ => exact HT1xq2q3q4q5q6z.out
  | 1,_ => exact HT2xq3q4q5q6z.out
  | 2,_ => exact HT4xq5q6z.out
  | 3,_ => exact HT6xz.out) (by simp) (by simp only [List.sum_cons,List.sum_nil]; omega))
 go_wp2_with fail
 ((with_reducible refine HF7x.out.mono ?_))
 rintro e w7x ⟨v7x,rfl,hvv7,hbb7⟩
 have HK7x:=Lib.hid (HKz7.out.trans (Keep.of hbb7))
 have HC7x:=Lib.hid (HCz7.out.keep hbb7)
 have HVF:=Lib.hid ((hvv7.base (B':=w.heap.size) HKz7.out.size).more (M:=5) (by first | (simp only [List.sum_cons,List.sum_nil]; omega) | (omega)))
 clear hvv7 hbb7
 go_wp2_with fail
 go_ret
 exact ⟨_,rfl,HVF.out,HC7x.out,HK7x.out⟩
end
section
open Go.RowKit
attribute [local go_sem] ByteArray.mk_append_mk bs_get bs_cut bs_end
def StmtOk (C : Nat) (dep : Int) (N : Nat) : Prop:=∀ (a : Int) (lp : Bool) (w : World),0 ≤ a → a ≤ 7 → CSt w C → Calls Tryz.prog 135 #[.pointer (some ⟨C,0,none⟩),.int .i64 dep,.int .i64 a,.bool lp] w (GPost C N w)
def BlockOk (C : Nat) (dep : Int) (N : Nat) : Prop:=∀ (a : Int) (lp : Bool) (w : World),0 ≤ a → a ≤ 7 → CSt w C → Calls Tryz.prog 96 #[.pointer (some ⟨C,0,none⟩),.int .i64 dep,.int .i64 a,.bool lp] w (GPost C N w)
set_option maxRecDepth 100000 in
set_option maxHeartbeats 16000000 in
theorem stmt_step (C : Nat) (dep : Int) (E T B N : Nat) (hd : -10 ≤ dep ∧ dep ≤ 10) (hE : E ≤ 900 ∧ T ≤ 900 ∧ B ≤ 9000) (hN : 23 ≤ N ∧ 1 + E + T ≤ N) (he1 : ExprOk C 1 64) (he0 : ExprOk C 0 21) (he : ExprOk C dep E) (ht : TargetOk C dep T) (hca : CallOk C dep N) (hsy : SyncOk C dep N)
  (ih : 0 < dep → BlockOk C (dep - 1) B ∧ 65 + 2 * B ≤ N ∧ 64 ≤ B ∧ dpN B + 1 ≤ dpN (65 + B)) : StmtOk C dep N:=by
 intro a lp w ha0 ha7 hc
 have IH:=Lib.hid ih
 have HE1:=Lib.hid he1
 have HE0:=Lib.hid he0
 have HE:=Lib.hid he
 have HT:=Lib.hid ht
 have HCA:=Lib.hid hca
 have HSY:=Lib.hid hsy
 unfold ExprOk at HE HE0 HE1
 unfold TargetOk at HT
 unfold CallOk at HCA
 unfold SyncOk at HSY
 have HN:=Lib.hid (next_any C 14 w hc (by omega) (by omega))
 clear hc ih he1 he0 he ht hca hsy
 go_enter Tryz.func135,Tryz.ntmps135
 go_wp2_with fail
 ((with_reducible refine HN.out.mono ?_))
 rintro e w1 ⟨k,rfl,hk,hc1,hk1⟩
 have HC1:=Lib.hid hc1
 have HK1:=Lib.hid hk1
 clear hc1 hk1 HN
 by_cases cb : (k = 1 ∨ k = 2) ∧ 0 < dep
 ·obtain ⟨hk12,hdp⟩:=cb
  obtain ⟨ihb,hBN,hB64,hBH⟩:=IH.out hdp
  have HB:=Lib.hid ihb
  unfold BlockOk at HB
  clear ihb IH hk
  rcases hk12 with rfl | rfl
  ·have HN2:=Lib.hid (next_any C 2 w1 HC1.out (by omega) (by omega))
   go_wp2_with fail
   ((with_reducible refine HN2.out.mono ?_))
   rintro e w2 ⟨k2,rfl,hk2,hc2,hkk2⟩
   have HC2:=Lib.hid hc2
   have HK2:=Lib.hid (HK1.out.trans hkk2)
   clear hc2 hkk2 HN2
   cases hz : (k2 : Int) == 0 with
   | true =>
     have HF1x:=Lib.hid (HE1.out a w2 ha0 ha7 HC2.out)
     unfold GPost at HF1x
     go_wp2_with fail
     ((with_reducible refine HF1x.out.mono ?_))
     rintro e w1x ⟨v1x,rfl,hvv1,hcc1,hkk1⟩
     obtain ⟨a1x,n1x,c1x,rfl⟩:=hvv1.form
     have HK1x:=Lib.hid (HK2.out.trans hkk1)
     have HC1x:=Lib.hid hcc1
     have HT1x:=Lib.hid (hvv1.base (B':=0) (Nat.zero_le _))
     clear hvv1 hcc1 hkk1 HF1x
     have HF2x:=Lib.hid (HB.out a lp w1x ha0 ha7 HC1x.out)
     unfold GPost at HF2x
     go_wp2_with fail
     ((with_reducible refine HF2x.out.mono ?_))
     rintro e w2x ⟨v2x,rfl,hvv2,hcc2,hkk2⟩
     obtain ⟨a2x,n2x,c2x,rfl⟩:=hvv2.form
     have HT1xq2:=Lib.hid (HT1x.out.keep HC1x.out hkk2)
     have HK2x:=Lib.hid (HK1x.out.trans hkk2)
     have HC2x:=Lib.hid hcc2
     have HT2x:=Lib.hid (hvv2.base (B':=0) (Nat.zero_le _))
     clear hvv2 hcc2 hkk2 HF2x
     have hal3 : Below w2x.heap.size w2x (w2x.alloc (.cells #[.slice a1x n1x c1x,.slice a2x n2x c2x] 24)):=(Below.refl _ _).alloc (Nat.le_refl _) _
     have HKL3:=Lib.hid (KSl.lit w2x [.slice a1x n1x c1x,.slice a2x n2x c2x] 2 rfl)
     have HT1xq2z:=Lib.hid (HT1xq2.out.below hal3)
     have HT2xz:=Lib.hid (HT2x.out.below hal3)
     have HCz3:=Lib.hid (HC2x.out.keep hal3)
     have HKz3:=Lib.hid (HK2x.out.trans (Keep.of hal3))
     have HF3x:=Lib.hid (kNode_any 31 _ [.slice a1x n1x c1x,.slice a2x n2x c2x] [64,B] (w2x.alloc (.cells #[.slice a1x n1x c1x,.slice a2x n2x c2x] 24)) (fun _ => nest_sum (B:=B) (K:=65 + B) (by simp only [List.sum_cons,List.sum_nil]; omega) hBH (by intro N hN; simp only [List.mem_cons,List.not_mem_nil,or_false] at hN; omega)) HKL3.out rfl (fun i h1 h2 => by
      match i,h1 with
      | 0,_ => exact HT1xq2z.out
      | 1,_ => exact HT2xz.out) (by simp) (by simp only [List.sum_cons,List.sum_nil]; omega))
     go_wp2_with fail
     ((with_reducible refine HF3x.out.mono ?_))
     rintro e w3x ⟨v3x,rfl,hvv3,hbb3⟩
     have HK3x:=Lib.hid (HKz3.out.trans (Keep.of hbb3))
     have HC3x:=Lib.hid (HCz3.out.keep hbb3)
     have HVF:=Lib.hid ((hvv3.base (B':=w.heap.size) HKz3.out.size).more (M:=N) (by first | (simp only [List.sum_cons,List.sum_nil]; omega) | (omega)))
     clear hvv3 hbb3
     go_wp2_with fail
     go_ret
     exact ⟨_,rfl,HVF.out,HC3x.out,HK3x.out⟩
   | false =>
     have HF1x:=Lib.hid (HE1.out a w2 ha0 ha7 HC2.out)
     unfold GPost at HF1x
     go_wp2_with fail
     ((with_reducible refine HF1x.out.mono ?_))
     rintro e w1x ⟨v1x,rfl,hvv1,hcc1,hkk1⟩
     obtain ⟨a1x,n1x,c1x,rfl⟩:=hvv1.form
     have HK1x:=Lib.hid (HK2.out.trans hkk1)
     have HC1x:=Lib.hid hcc1
     have HT1x:=Lib.hid (hvv1.base (B':=0) (Nat.zero_le _))
     clear hvv1 hcc1 hkk1 HF1x
     have HF2x:=Lib.hid (HB.out a lp w1x ha0 ha7 HC1x.out)
     unfold GPost at HF2x
     go_wp2_with fail
     ((with_reducible refine HF2x.out.mono ?_))
     rintro e w2x ⟨v2x,rfl,hvv2,hcc2,hkk2⟩
     obtain ⟨a2x,n2x,c2x,rfl⟩:=hvv2.form
     have HT1xq2:=Lib.hid (HT1x.out.keep HC1x.out hkk2)
     have HK2x:=Lib.hid (HK1x.out.trans hkk2)
     have HC2x:=Lib.hid hcc2
     have HT2x:=Lib.hid (hvv2.base (B':=0) (Nat.zero_le _))
     clear hvv2 hcc2 hkk2 HF2x
     have HF3x:=Lib.hid (HB.out a lp w2x ha0 ha7 HC2x.out)
     unfold GPost at HF3x
     go_wp2_with fail
     ((with_reducible refine HF3x.out.mono ?_))
     rintro e w3x ⟨v3x,rfl,hvv3,hcc3,hkk3⟩
     obtain ⟨a3x,n3x,c3x,rfl⟩:=hvv3.form
     have HT1xq2q3:=Lib.hid (HT1xq2.out.keep HC2x.out hkk3)
     have HT2xq3:=Lib.hid (HT2x.out.keep HC2x.out hkk3)
     have HK3x:=Lib.hid (HK2x.out.trans hkk3)
     have HC3x:=Lib.hid hcc3
     have HT3x:=Lib.hid (hvv3.base (B':=0) (Nat.zero_le _))
     clear hvv3 hcc3 hkk3 HF3x
     have hal4 : Below w3x.heap.size w3x (w3x.alloc (.cells #[.slice a1x n1x c1x,.slice a2x n2x c2x,.slice a3x n3x c3x] 24)):=(Below.refl _ _).alloc (Nat.le_refl _) _
     have HKL4:=Lib.hid (KSl.lit w3x [.slice a1x n1x c1x,.slice a2x n2x c2x,.slice a3x n3x c3x] 3 rfl)
     have HT1xq2q3z:=Lib.hid (HT1xq2q3.out.below hal4)
     have HT2xq3z:=Lib.hid (HT2xq3.out.below hal4)
     have HT3xz:=Lib.hid (HT3x.out.below hal4)
     have HCz4:=Lib.hid (HC3x.out.keep hal4)
     have HKz4:=Lib.hid (HK3x.out.trans (Keep.of hal4))
     have HF4x:=Lib.hid (kNode_any 31 _ [.slice a1x n1x c1x,.slice a2x n2x c2x,.slice a3x n3x c3x] [64,B,B] (w3x.alloc (.cells #[.slice a1x n1x c1x,.slice a2x n2x c2x,.slice a3x n3x c3x] 24)) (fun _ => nest_sum (B:=B) (K:=65 + B) (by simp only [List.sum_cons,List.sum_nil]; omega) hBH (by intro N hN; simp only [List.mem_cons,List.not_mem_nil,or_false] at hN; omega)) HKL4.out rfl (fun i h1 h2 => by
      match i,h1 with
      | 0,_ => exact HT1xq2q3z.out
      | 1,_ => exact HT2xq3z.out
      | 2,_ => exact HT3xz.out) (by simp) (by simp only [List.sum_cons,List.sum_nil]; omega))
     go_wp2_with fail
     ((with_reducible refine HF4x.out.mono ?_))
     rintro e w4x ⟨v4x,rfl,hvv4,hbb4⟩
     have HK4x:=Lib.hid (HKz4.out.trans (Keep.of hbb4))
     have HC4x:=Lib.hid (HCz4.out.keep hbb4)
     have HVF:=Lib.hid ((hvv4.base (B':=w.heap.size) HKz4.out.size).more (M:=N) (by first | (simp only [List.sum_cons,List.sum_nil]; omega) | (omega)))
     clear hvv4 hbb4
     go_wp2_with fail
     go_ret
     exact ⟨_,rfl,HVF.out,HC4x.out,HK4x.out⟩
  ·skip
   have HF1x:=Lib.hid (HE1.out a w1 ha0 ha7 HC1.out)
   unfold GPost at HF1x
   go_wp2_with fail
   ((with_reducible refine HF1x.out.mono ?_))
   rintro e w1x ⟨v1x,rfl,hvv1,hcc1,hkk1⟩
   obtain ⟨a1x,n1x,c1x,rfl⟩:=hvv1.form
   have HK1x:=Lib.hid (HK1.out.trans hkk1)
   have HC1x:=Lib.hid hcc1
   have HT1x:=Lib.hid (hvv1.base (B':=0) (Nat.zero_le _))
   clear hvv1 hcc1 hkk1 HF1x
   have HF2x:=Lib.hid (HB.out a true w1x ha0 ha7 HC1x.out)
   unfold GPost at HF2x
   go_wp2_with fail
   ((with_reducible refine HF2x.out.mono ?_))
   rintro e w2x ⟨v2x,rfl,hvv2,hcc2,hkk2⟩
   obtain ⟨a2x,n2x,c2x,rfl⟩:=hvv2.form
   have HT1xq2:=Lib.hid (HT1x.out.keep HC1x.out hkk2)
   have HK2x:=Lib.hid (HK1x.out.trans hkk2)
   have HC2x:=Lib.hid hcc2
   have HT2x:=Lib.hid (hvv2.base (B':=0) (Nat.zero_le _))
   clear hvv2 hcc2 hkk2 HF2x
   have hal3 : Below w2x.heap.size w2x (w2x.alloc (.cells #[.slice a1x n1x c1x,.slice a2x n2x c2x] 24)):=(Below.refl _ _).alloc (Nat.le_refl _) _
   have HKL3:=Lib.hid (KSl.lit w2x [.slice a1x n1x c1x,.slice a2x n2x c2x] 2 rfl)
   have HT1xq2z:=Lib.hid (HT1xq2.out.below hal3)
   have HT2xz:=Lib.hid (HT2x.out.below hal3)
   have HCz3:=Lib.hid (HC2x.out.keep hal3)
   have HKz3:=Lib.hid (HK2x.out.trans (Keep.of hal3))
   have HF3x:=Lib.hid (kNode_any 32 _ [.slice a1x n1x c1x,.slice a2x n2x c2x] [64,B] (w2x.alloc (.cells #[.slice a1x n1x c1x,.slice a2x n2x c2x] 24)) (fun _ => nest_sum (B:=B) (K:=65 + B) (by simp only [List.sum_cons,List.sum_nil]; omega) hBH (by intro N hN; simp only [List.mem_cons,List.not_mem_nil,or_false] at hN; omega)) HKL3.out rfl (fun i h1 h2 => by
    match i,h1 with
    | 0,_ => exact HT1xq2z.out
    | 1,_ => exact HT2xz.out) (by simp) (by simp only [List.sum_cons,List.sum_nil]; omega))
   go_wp2_with fail
   ((with_reducible refine HF3x.out.mono ?_))
   rintro e w3x ⟨v3x,rfl,hvv3,hbb3⟩
   have HK3x:=Lib.hid (HKz3.out.trans (Keep.of hbb3))
   have HC3x:=Lib.hid (HCz3.out.keep hbb3)
   have HVF:=Lib.hid ((hvv3.base (B':=w.heap.size) HKz3.out.size).more (M:=N) (by first | (simp only [List.sum_cons,List.sum_nil]; omega) | (omega)))
   clear hvv3 hbb3
   go_wp2_with fail
   go_ret
   exact ⟨_,rfl,HVF.out,HC3x.out,HK3x.out⟩
 have hks : (k = 0 ∨ k = 12 ∨ k = 13 ∨ ((k = 1 ∨ k = 2) ∧ ¬ 0 < dep) ∨ ((k = 4 ∨ k = 5) ∧ lp = false)) ∨ k = 3 ∨ (k = 4 ∧ lp = true) ∨ (k = 5 ∧ lp = true) ∨ k = 6 ∨ k = 7 ∨ k = 8 ∨ k = 9 ∨ k = 10 ∨ k = 11:=by
  cases lp <;> simp <;> omega
 clear cb IH hk
 rcases hks with h | rfl | ⟨rfl,rfl⟩ | ⟨rfl,rfl⟩ | rfl | rfl | rfl | rfl | rfl | rfl
 ·rcases h with rfl | rfl | rfl | ⟨rfl | rfl,hx⟩ | ⟨rfl | rfl,rfl⟩
  all_goals
   have HF1x:=Lib.hid (HE.out a w1 ha0 ha7 HC1.out)
   unfold GPost at HF1x
   go_wp2_with fail
   ((with_reducible refine HF1x.out.mono ?_))
   rintro e w1x ⟨v1x,rfl,hvv1,hcc1,hkk1⟩
   obtain ⟨a1x,n1x,c1x,rfl⟩:=hvv1.form
   have HK1x:=Lib.hid (HK1.out.trans hkk1)
   have HC1x:=Lib.hid hcc1
   have HT1x:=Lib.hid (hvv1.base (B':=0) (Nat.zero_le _))
   clear hvv1 hcc1 hkk1 HF1x
   have HF2x:=Lib.hid (HT.out a w1x ha0 ha7 HC1x.out)
   unfold GPost at HF2x
   go_wp2_with fail
   ((with_reducible refine HF2x.out.mono ?_))
   rintro e w2x ⟨v2x,rfl,hvv2,hcc2,hkk2⟩
   obtain ⟨a2x,n2x,c2x,rfl⟩:=hvv2.form
   have HT1xq2:=Lib.hid (HT1x.out.keep HC1x.out hkk2)
   have HK2x:=Lib.hid (HK1x.out.trans hkk2)
   have HC2x:=Lib.hid hcc2
   have HT2x:=Lib.hid (hvv2.base (B':=0) (Nat.zero_le _))
   clear hvv2 hcc2 hkk2 HF2x
   have hal3 : Below w2x.heap.size w2x (w2x.alloc (.cells #[.slice a1x n1x c1x,.slice a2x n2x c2x] 24)):=(Below.refl _ _).alloc (Nat.le_refl _) _
   have HKL3:=Lib.hid (KSl.lit w2x [.slice a1x n1x c1x,.slice a2x n2x c2x] 2 rfl)
   have HT1xq2z:=Lib.hid (HT1xq2.out.below hal3)
   have HT2xz:=Lib.hid (HT2x.out.below hal3)
   have HCz3:=Lib.hid (HC2x.out.keep hal3)
   have HKz3:=Lib.hid (HK2x.out.trans (Keep.of hal3))
   have HF3x:=Lib.hid (kNode_any 30 _ [.slice a1x n1x c1x,.slice a2x n2x c2x] [E,T] (w2x.alloc (.cells #[.slice a1x n1x c1x,.slice a2x n2x c2x] 24)) (fun h => by unfold NestP at h; omega) HKL3.out rfl (fun i h1 h2 => by
    match i,h1 with
    | 0,_ => exact HT1xq2z.out
    | 1,_ => exact HT2xz.out) (by simp) (by simp only [List.sum_cons,List.sum_nil]; omega))
   go_wp2_with fail
   ((with_reducible refine HF3x.out.mono ?_))
   rintro e w3x ⟨v3x,rfl,hvv3,hbb3⟩
   have HK3x:=Lib.hid (HKz3.out.trans (Keep.of hbb3))
   have HC3x:=Lib.hid (HCz3.out.keep hbb3)
   have HVF:=Lib.hid ((hvv3.base (B':=w.heap.size) HKz3.out.size).more (M:=N) (by first | (simp only [List.sum_cons,List.sum_nil]; omega) | (omega)))
   clear hvv3 hbb3
   go_wp2_with fail
   go_ret
   exact ⟨_,rfl,HVF.out,HC3x.out,HK3x.out⟩
 ·have HF1x:=Lib.hid (HE.out a w1 ha0 ha7 HC1.out)
  unfold GPost at HF1x
  go_wp2_with fail
  ((with_reducible refine HF1x.out.mono ?_))
  rintro e w1x ⟨v1x,rfl,hvv1,hcc1,hkk1⟩
  obtain ⟨a1x,n1x,c1x,rfl⟩:=hvv1.form
  have HK1x:=Lib.hid (HK1.out.trans hkk1)
  have HC1x:=Lib.hid hcc1
  have HT1x:=Lib.hid (hvv1.base (B':=0) (Nat.zero_le _))
  clear hvv1 hcc1 hkk1 HF1x
  have hal2 : Below w1x.heap.size w1x (w1x.alloc (.cells #[.slice a1x n1x c1x] 24)):=(Below.refl _ _).alloc (Nat.le_refl _) _
  have HKL2:=Lib.hid (KSl.lit w1x [.slice a1x n1x c1x] 1 rfl)
  have HT1xz:=Lib.hid (HT1x.out.below hal2)
  have HCz2:=Lib.hid (HC1x.out.keep hal2)
  have HKz2:=Lib.hid (HK1x.out.trans (Keep.of hal2))
  have HF2x:=Lib.hid (kNode_any 33 _ [.slice a1x n1x c1x] [E] (w1x.alloc (.cells #[.slice a1x n1x c1x] 24)) (fun h => by unfold NestP at h; omega) HKL2.out rfl (fun i h1 h2 => by
   match i,h1 with
   | 0,_ => exact HT1xz.out) (by simp) (by simp only [List.sum_cons,List.sum_nil]; omega))
  go_wp2_with fail
  ((with_reducible refine HF2x.out.mono ?_))
  rintro e w2x ⟨v2x,rfl,hvv2,hbb2⟩
  have HK2x:=Lib.hid (HKz2.out.trans (Keep.of hbb2))
  have HC2x:=Lib.hid (HCz2.out.keep hbb2)
  have HVF:=Lib.hid ((hvv2.base (B':=w.heap.size) HKz2.out.size).more (M:=N) (by first | (simp only [List.sum_cons,List.sum_nil]; omega) | (omega)))
  clear hvv2 hbb2
  go_wp2_with fail
  go_ret
  exact ⟨_,rfl,HVF.out,HC2x.out,HK2x.out⟩
 ·have HF1x:=Lib.hid (kNode_any 34 _ [] [] w1 (fun h => by unfold NestP at h; omega) (KSl.nil _) rfl (fun i h => by cases h) (by simp) (by simp))
  go_wp2_with fail
  ((with_reducible refine HF1x.out.mono ?_))
  rintro e w1x ⟨v1x,rfl,hvv1,hbb1⟩
  have HK1x:=Lib.hid (HK1.out.trans (Keep.of hbb1))
  have HC1x:=Lib.hid (HC1.out.keep hbb1)
  have HVF:=Lib.hid ((hvv1.base (B':=w.heap.size) HK1.out.size).more (M:=N) (by first | (simp only [List.sum_cons,List.sum_nil]; omega) | (omega)))
  clear hvv1 hbb1
  go_wp2_with fail
  go_ret
  exact ⟨_,rfl,HVF.out,HC1x.out,HK1x.out⟩
 ·have HF1x:=Lib.hid (kNode_any 35 _ [] [] w1 (fun h => by unfold NestP at h; omega) (KSl.nil _) rfl (fun i h => by cases h) (by simp) (by simp))
  go_wp2_with fail
  ((with_reducible refine HF1x.out.mono ?_))
  rintro e w1x ⟨v1x,rfl,hvv1,hbb1⟩
  have HK1x:=Lib.hid (HK1.out.trans (Keep.of hbb1))
  have HC1x:=Lib.hid (HC1.out.keep hbb1)
  have HVF:=Lib.hid ((hvv1.base (B':=w.heap.size) HK1.out.size).more (M:=N) (by first | (simp only [List.sum_cons,List.sum_nil]; omega) | (omega)))
  clear hvv1 hbb1
  go_wp2_with fail
  go_ret
  exact ⟨_,rfl,HVF.out,HC1x.out,HK1x.out⟩
 ·have HF1x:=Lib.hid (nameOf_any [77,84,88] w1 (by simp))
  go_wp2_with fail
  ((with_reducible refine HF1x.out.mono ?_))
  rintro e w1x ⟨v1x,rfl,hvv1,hbb1⟩
  obtain ⟨a1x,n1x,c1x,rfl⟩:=hvv1.form
  have HK1x:=Lib.hid (HK1.out.trans (Keep.of hbb1))
  have HC1x:=Lib.hid (HC1.out.keep hbb1)
  have HT1x:=Lib.hid (hvv1.base (B':=0) (Nat.zero_le _))
  clear hvv1 hbb1 HF1x
  have hal2 : Below w1x.heap.size w1x (w1x.alloc (.cells #[.slice a1x n1x c1x] 24)):=(Below.refl _ _).alloc (Nat.le_refl _) _
  have HKL2:=Lib.hid (KSl.lit w1x [.slice a1x n1x c1x] 1 rfl)
  have HT1xz:=Lib.hid (HT1x.out.below hal2)
  have HCz2:=Lib.hid (HC1x.out.keep hal2)
  have HKz2:=Lib.hid (HK1x.out.trans (Keep.of hal2))
  have HF2x:=Lib.hid (kNode_any 36 _ [.slice a1x n1x c1x] [1] (w1x.alloc (.cells #[.slice a1x n1x c1x] 24)) (fun h => by unfold NestP at h; omega) HKL2.out rfl (fun i h1 h2 => by
   match i,h1 with
   | 0,_ => exact HT1xz.out) (by simp) (by simp only [List.sum_cons,List.sum_nil]; omega))
  go_wp2_with fail
  ((with_reducible refine HF2x.out.mono ?_))
  rintro e w2x ⟨v2x,rfl,hvv2,hbb2⟩
  have HK2x:=Lib.hid (HKz2.out.trans (Keep.of hbb2))
  have HC2x:=Lib.hid (HCz2.out.keep hbb2)
  have HVF:=Lib.hid ((hvv2.base (B':=w.heap.size) HKz2.out.size).more (M:=N) (by first | (simp only [List.sum_cons,List.sum_nil]; omega) | (omega)))
  clear hvv2 hbb2
  go_wp2_with fail
  go_ret
  exact ⟨_,rfl,HVF.out,HC2x.out,HK2x.out⟩
 ·have HF1x:=Lib.hid (next_any C 2 w1 HC1.out (by omega) (by omega))
  go_wp2_with fail
  ((with_reducible refine HF1x.out.mono ?_))
  rintro e w1x ⟨kn,rfl,hkn,hcc1,hkk1⟩
  have hkn' : (kn : Int) < 2:=hkn
  have HK1x:=Lib.hid (HK1.out.trans hkk1)
  have HC1x:=Lib.hid hcc1
  clear hcc1 hkk1 HF1x
  have HF2x:=Lib.hid (nameOf_any [69,86,84] w1x (by simp))
  go_wp2_with fail
  ((with_reducible refine HF2x.out.mono ?_))
  rintro e w2x ⟨v2x,rfl,hvv2,hbb2⟩
  obtain ⟨a2x,n2x,c2x,rfl⟩:=hvv2.form
  have HK2x:=Lib.hid (HK1x.out.trans (Keep.of hbb2))
  have HC2x:=Lib.hid (HC1x.out.keep hbb2)
  have HT2x:=Lib.hid (hvv2.base (B':=0) (Nat.zero_le _))
  clear hvv2 hbb2 HF2x
  have hal3 : Below w2x.heap.size w2x (w2x.alloc (.cells #[.slice a2x n2x c2x] 24)):=(Below.refl _ _).alloc (Nat.le_refl _) _
  have HKL3:=Lib.hid (KSl.lit w2x [.slice a2x n2x c2x] 1 rfl)
  have HT2xz:=Lib.hid (HT2x.out.below hal3)
  have HCz3:=Lib.hid (HC2x.out.keep hal3)
  have HKz3:=Lib.hid (HK2x.out.trans (Keep.of hal3))
  have HF3x:=Lib.hid (kNode_any (37 + (kn : Int)) _ [.slice a2x n2x c2x] [1] (w2x.alloc (.cells #[.slice a2x n2x c2x] 24)) (fun h => by unfold NestP at h; omega) HKL3.out rfl (fun i h1 h2 => by
   match i,h1 with
   | 0,_ => exact HT2xz.out) (by simp) (by simp only [List.sum_cons,List.sum_nil]; omega))
  go_wp2_with fail
  ((with_reducible refine HF3x.out.mono ?_))
  rintro e w3x ⟨v3x,rfl,hvv3,hbb3⟩
  have HK3x:=Lib.hid (HKz3.out.trans (Keep.of hbb3))
  have HC3x:=Lib.hid (HCz3.out.keep hbb3)
  have HVF:=Lib.hid ((hvv3.base (B':=w.heap.size) HKz3.out.size).more (M:=N) (by first | (simp only [List.sum_cons,List.sum_nil]; omega) | (omega)))
  clear hvv3 hbb3
  go_wp2_with fail
  go_ret
  exact ⟨_,rfl,HVF.out,HC3x.out,HK3x.out⟩
 ·have HF1x:=Lib.hid (next_any C 4 w1 HC1.out (by omega) (by omega))
  go_wp2_with fail
  ((with_reducible refine HF1x.out.mono ?_))
  rintro e w1x ⟨kn,rfl,hkn,hcc1,hkk1⟩
  have hkn' : (kn : Int) < 4:=hkn
  have HK1x:=Lib.hid (HK1.out.trans hkk1)
  have HC1x:=Lib.hid hcc1
  clear hcc1 hkk1 HF1x
  have HF2x:=Lib.hid (gInt_any kn w1x (by omega))
  go_wp2_with fail
  ((with_reducible refine HF2x.out.mono ?_))
  rintro e w2x ⟨v2x,rfl,hvv2,hbb2⟩
  obtain ⟨a2x,n2x,c2x,rfl⟩:=hvv2.form
  have HK2x:=Lib.hid (HK1x.out.trans (Keep.of hbb2))
  have HC2x:=Lib.hid (HC1x.out.keep hbb2)
  have HT2x:=Lib.hid (hvv2.base (B':=0) (Nat.zero_le _))
  clear hvv2 hbb2 HF2x
  have hal3 : Below w2x.heap.size w2x (w2x.alloc (.cells #[.slice a2x n2x c2x] 24)):=(Below.refl _ _).alloc (Nat.le_refl _) _
  have HKL3:=Lib.hid (KSl.lit w2x [.slice a2x n2x c2x] 1 rfl)
  have HT2xz:=Lib.hid (HT2x.out.below hal3)
  have HCz3:=Lib.hid (HC2x.out.keep hal3)
  have HKz3:=Lib.hid (HK2x.out.trans (Keep.of hal3))
  have HF3x:=Lib.hid (kNode_any 39 _ [.slice a2x n2x c2x] [1] (w2x.alloc (.cells #[.slice a2x n2x c2x] 24)) (fun h => by unfold NestP at h; omega) HKL3.out rfl (fun i h1 h2 => by
   match i,h1 with
   | 0,_ => exact HT2xz.out) (by simp) (by simp only [List.sum_cons,List.sum_nil]; omega))
  go_wp2_with fail
  ((with_reducible refine HF3x.out.mono ?_))
  rintro e w3x ⟨v3x,rfl,hvv3,hbb3⟩
  have HK3x:=Lib.hid (HKz3.out.trans (Keep.of hbb3))
  have HC3x:=Lib.hid (HCz3.out.keep hbb3)
  have HVF:=Lib.hid ((hvv3.base (B':=w.heap.size) HKz3.out.size).more (M:=N) (by first | (simp only [List.sum_cons,List.sum_nil]; omega) | (omega)))
  clear hvv3 hbb3
  go_wp2_with fail
  go_ret
  exact ⟨_,rfl,HVF.out,HC3x.out,HK3x.out⟩
 ·have HF1x:=Lib.hid (gname_any C w1 HC1.out)
  go_wp2_with fail
  ((with_reducible refine HF1x.out.mono ?_))
  rintro e w1x ⟨sn,rfl,hsn,hcc1,hkk1⟩
  have HK1x:=Lib.hid (HK1.out.trans hkk1)
  have HC1x:=Lib.hid hcc1
  clear hcc1 hkk1 HF1x
  have HF2x:=Lib.hid (nameOf_any sn w1x (by omega))
  go_wp2_with fail
  ((with_reducible refine HF2x.out.mono ?_))
  rintro e w2x ⟨v2x,rfl,hvv2,hbb2⟩
  obtain ⟨a2x,n2x,c2x,rfl⟩:=hvv2.form
  have HK2x:=Lib.hid (HK1x.out.trans (Keep.of hbb2))
  have HC2x:=Lib.hid (HC1x.out.keep hbb2)
  have HT2x:=Lib.hid (hvv2.base (B':=0) (Nat.zero_le _))
  clear hvv2 hbb2 HF2x
  have HF3x:=Lib.hid (HE0.out a w2x ha0 ha7 HC2x.out)
  unfold GPost at HF3x
  go_wp2_with fail
  ((with_reducible refine HF3x.out.mono ?_))
  rintro e w3x ⟨v3x,rfl,hvv3,hcc3,hkk3⟩
  obtain ⟨a3x,n3x,c3x,rfl⟩:=hvv3.form
  have HT2xq3:=Lib.hid (HT2x.out.keep HC2x.out hkk3)
  have HK3x:=Lib.hid (HK2x.out.trans hkk3)
  have HC3x:=Lib.hid hcc3
  have HT3x:=Lib.hid (hvv3.base (B':=0) (Nat.zero_le _))
  clear hvv3 hcc3 hkk3 HF3x
  have hal4 : Below w3x.heap.size w3x (w3x.alloc (.cells #[.slice a2x n2x c2x,.slice a3x n3x c3x] 24)):=(Below.refl _ _).alloc (Nat.le_refl _) _
  have HKL4:=Lib.hid (KSl.lit w3x [.slice a2x n2x c2x,.slice a3x n3x c3x] 2 rfl)
  have HT2xq3z:=Lib.hid (HT2xq3.out.below hal4)
  have HT3xz:=Lib.hid (HT3x.out.below hal4)
  have HCz4:=Lib.hid (HC3x.out.keep hal4)
  have HKz4:=Lib.hid (HK3x.out.trans (Keep.of hal4))
  have HF4x:=Lib.hid (kNode_any 40 _ [.slice a2x n2x c2x,.slice a3x n3x c3x] [1,21] (w3x.alloc (.cells #[.slice a2x n2x c2x,.slice a3x n3x c3x] 24)) (fun h => by unfold NestP at h; omega) HKL4.out rfl (fun i h1 h2 => by
   match i,h1 with
   | 0,_ => exact HT2xq3z.out
   | 1,_ => exact HT3xz.out) (by simp) (by simp only [List.sum_cons,List.sum_nil]; omega))
  go_wp2_with fail
  ((with_reducible refine HF4x.out.mono ?_))
  rintro e w4x ⟨v4x,rfl,hvv4,hbb4⟩
  have HK4x:=Lib.hid (HKz4.out.trans (Keep.of hbb4))
  have HC4x:=Lib.hid (HCz4.out.keep hbb4)
  have HVF:=Lib.hid ((hvv4.base (B':=w.heap.size) HKz4.out.size).more (M:=N) (by first | (simp only [List.sum_cons,List.sum_nil]; omega) | (omega)))
  clear hvv4 hbb4
  go_wp2_with fail
  go_ret
  exact ⟨_,rfl,HVF.out,HC4x.out,HK4x.out⟩
 ·have HF1x:=Lib.hid (HCA.out a w1 ha0 ha7 HC1.out)
  unfold GPost at HF1x
  go_wp2_with fail
  ((with_reducible refine HF1x.out.mono ?_))
  rintro e w1x ⟨v1x,rfl,hvv1,hcc1,hkk1⟩
  have hbb1:=hkk1
  have HK1x:=Lib.hid (HK1.out.trans hkk1)
  have HC1x:=Lib.hid hcc1
  clear hcc1 hkk1
  have HVF:=Lib.hid ((hvv1.base (B':=w.heap.size) HK1.out.size).more (M:=N) (by first | (simp only [List.sum_cons,List.sum_nil]; omega) | (omega)))
  clear hvv1 hbb1
  go_wp2_with fail
  go_ret
  exact ⟨_,rfl,HVF.out,HC1x.out,HK1x.out⟩
 ·have HF1x:=Lib.hid (HSY.out a w1 ha0 ha7 HC1.out)
  unfold GPost at HF1x
  go_wp2_with fail
  ((with_reducible refine HF1x.out.mono ?_))
  rintro e w1x ⟨v1x,rfl,hvv1,hcc1,hkk1⟩
  have hbb1:=hkk1
  have HK1x:=Lib.hid (HK1.out.trans hkk1)
  have HC1x:=Lib.hid hcc1
  clear hcc1 hkk1
  have HVF:=Lib.hid ((hvv1.base (B':=w.heap.size) HK1.out.size).more (M:=N) (by first | (simp only [List.sum_cons,List.sum_nil]; omega) | (omega)))
  clear hvv1 hbb1
  go_wp2_with fail
  go_ret
  exact ⟨_,rfl,HVF.out,HC1x.out,HK1x.out⟩
end
end Go.Proofs.YtoohondkpddmcaaGreatDoor
