/- Pg Ph -/
import Derived.Test.YtoohondkpddmcaaGreatDoorVbr
set_option linter.unusedVariables false
set_option linter.unusedSimpArgs false
namespace Go.Proofs.YtoohondkpddmcaaGreatDoor
section
open Go.RowKit
attribute [local go_sem] ByteArray.mk_append_mk bs_get bs_cut bs_end
set_option maxRecDepth 100000 in
set_option maxHeartbeats 16000000 in
theorem expr_step (C : Nat) (dep : Int) (E T N : Nat) (hd : -10 ≤ dep ∧ dep ≤ 10) (hE : E ≤ 900 ∧ T ≤ 900) (hN : 21 ≤ N) (ht0 : TargetOk C 0 1) (hda : DataOk C 1)
  (ih : 0 < dep → ExprOk C (dep - 1) E ∧ TargetOk C (dep - 1) T ∧ CallOk C dep N ∧ SyncOk C dep N ∧ 1 + 3 * E ≤ N ∧ 1 + T ≤ N) : ExprOk C dep N:=by
 intro a w ha0 ha7 hc
 have IH:=Lib.hid ih
 have HT0:=Lib.hid ht0
 unfold TargetOk at HT0
 have HDA : Hid (∀ w,CSt w C → Calls Tryz.prog 49 #[.pointer (some ⟨C,0,none⟩),.int .i64 1] w (GPost C 21 w)):=Lib.hid hda
 have HN:=Lib.hid (next_any C 16 w hc (by omega) (by omega))
 clear hc ih ht0 hda
 go_enter Tryz.func192,Tryz.ntmps192
 go_wp2_with fail
 ((with_reducible refine HN.out.mono ?_))
 rintro e w1 ⟨k0,rfl,hk0,hc1,hk1⟩
 have HC1:=Lib.hid hc1
 have HK1:=Lib.hid hk1
 clear hc1 hk1 HN
 go_upto_if 11 with fail
 go_cut [7] (fun z wx => ∃ k : Nat,z = .int .i64 k ∧ k < 16 ∧ (dep ≤ 0 → k < 5) ∧ w1 = wx)
 case first =>
  by_cases hdz : dep ≤ 0
  ·have hm1 : ((k0 : Int).tmod 5) = ((k0 % 5 : Nat) : Int):=Int.ofNat_tmod k0 5 |>.symm
   have hm2 : k0 % 5 < 5:=Nat.mod_lt _ (by decide)
   obtain ⟨q,hq⟩ : ∃ q,k0 % 5 = q:=⟨_,rfl⟩
   rw [hq] at hm1 hm2
   clear hq
   go_wp2_with fail
   go_meet
   exact ⟨q,rfl,by omega,fun _ => hm2,rfl⟩
  ·go_wp2_with fail
   go_meet
   exact ⟨k0,rfl,by omega,fun h => absurd h (by omega),rfl⟩
 case rest =>
 obtain ⟨k,rfl,hk16,hk5,rfl⟩:=hcut
 obtain ⟨w1,rfl⟩ : ∃ y : World,y = w1:=⟨_,rfl⟩
 have hks : k = 0 ∨ k = 1 ∨ k = 2 ∨ k = 3 ∨ k = 4 ∨ (0 < dep ∧ 5 ≤ k):=by omega
 clear hk5 hk0
 rcases hks with rfl | rfl | rfl | rfl | rfl | ⟨hdp,hk5⟩
 ·have HF1x:=Lib.hid (gnumber_any C w1 HC1.out)
  go_wp2_with fail
  ((with_reducible refine HF1x.out.mono ?_))
  rintro e w1x ⟨nu,rfl,hnu,hcc1,hkk1⟩
  have HK1x:=Lib.hid (HK1.out.trans hkk1)
  have HC1x:=Lib.hid hcc1
  clear hcc1 hkk1 HF1x
  have HF2x:=Lib.hid (gInt_any nu w1x hnu)
  go_wp2_with fail
  ((with_reducible refine HF2x.out.mono ?_))
  rintro e w2x ⟨v2x,rfl,hvv2,hbb2⟩
  have HK2x:=Lib.hid (HK1x.out.trans (Keep.of hbb2))
  have HC2x:=Lib.hid (HC1x.out.keep hbb2)
  have HVF:=Lib.hid ((hvv2.base (B':=w.heap.size) HK1x.out.size).more (M:=N) (by first | (simp only [List.sum_cons,List.sum_nil]; omega) | (omega)))
  clear hvv2 hbb2
  go_wp2_with fail
  go_ret
  exact ⟨_,rfl,HVF.out,HC2x.out,HK2x.out⟩
 ·have HF1x:=Lib.hid (HT0.out a w1 ha0 ha7 HC1.out)
  unfold GPost at HF1x
  go_wp2_with fail
  ((with_reducible refine HF1x.out.mono ?_))
  rintro e w1x ⟨v1x,rfl,hvv1,hcc1,hkk1⟩
  have hbb1:=hkk1
  have HK1x:=Lib.hid (HK1.out.trans hkk1)
  have HC1x:=Lib.hid hcc1
  clear hcc1 hkk1
  have HVF:=Lib.hid ((hvv1.base (B':=w.heap.size) HK1.out.size).more (M:=N) (by first | (simp only [List.sum_cons,List.sum_nil]; omega) | (omega)))
  clear hvv1 hbb1
  go_wp2_with fail
  go_ret
  exact ⟨_,rfl,HVF.out,HC1x.out,HK1x.out⟩
 ·have HF1x:=Lib.hid (HDA.out w1 HC1.out)
  unfold GPost at HF1x
  go_wp2_with fail
  ((with_reducible refine HF1x.out.mono ?_))
  rintro e w1x ⟨v1x,rfl,hvv1,hcc1,hkk1⟩
  have hbb1:=hkk1
  have HK1x:=Lib.hid (HK1.out.trans hkk1)
  have HC1x:=Lib.hid hcc1
  clear hcc1 hkk1
  have HVF:=Lib.hid ((hvv1.base (B':=w.heap.size) HK1.out.size).more (M:=N) (by first | (simp only [List.sum_cons,List.sum_nil]; omega) | (omega)))
  clear hvv1 hbb1
  go_wp2_with fail
  go_ret
  exact ⟨_,rfl,HVF.out,HC1x.out,HK1x.out⟩
 ·have HF1x:=Lib.hid (next_any C 3 w1 HC1.out (by omega) (by omega))
  go_wp2_with fail
  ((with_reducible refine HF1x.out.mono ?_))
  rintro e w1x ⟨kn,rfl,hkn,hcc1,hkk1⟩
  have hkn' : (kn : Int) < 3:=hkn
  have HK1x:=Lib.hid (HK1.out.trans hkk1)
  have HC1x:=Lib.hid hcc1
  clear hcc1 hkk1 HF1x
  have HF2x:=Lib.hid (gnode_any 6 kn [] _ [] [] w1x (by simp) (by omega) (fun h => by unfold NestP at h; omega) (KSl.nil _) rfl (fun i h => by cases h) (by simp) (by simp))
  go_wp2_with fail
  ((with_reducible refine HF2x.out.mono ?_))
  rintro e w2x ⟨v2x,rfl,hvv2,hbb2⟩
  have HK2x:=Lib.hid (HK1x.out.trans (Keep.of hbb2))
  have HC2x:=Lib.hid (HC1x.out.keep hbb2)
  have HVF:=Lib.hid ((hvv2.base (B':=w.heap.size) HK1x.out.size).more (M:=N) (by first | (simp only [List.sum_cons,List.sum_nil]; omega) | (omega)))
  clear hvv2 hbb2
  go_wp2_with fail
  go_ret
  exact ⟨_,rfl,HVF.out,HC2x.out,HK2x.out⟩
 ·have HF1x:=Lib.hid (gname_any C w1 HC1.out)
  go_wp2_with fail
  ((with_reducible refine HF1x.out.mono ?_))
  rintro e w1x ⟨sn,rfl,hsn,hcc1,hkk1⟩
  have HK1x:=Lib.hid (HK1.out.trans hkk1)
  have HC1x:=Lib.hid hcc1
  clear hcc1 hkk1 HF1x
  have HF2x:=Lib.hid (nameOf_any sn w1x (by omega))
  go_wp2_with fail
  ((with_reducible refine HF2x.out.mono ?_))
  rintro e w2x ⟨v2x,rfl,hvv2,hbb2⟩
  have HK2x:=Lib.hid (HK1x.out.trans (Keep.of hbb2))
  have HC2x:=Lib.hid (HC1x.out.keep hbb2)
  have HVF:=Lib.hid ((hvv2.base (B':=w.heap.size) HK1x.out.size).more (M:=N) (by first | (simp only [List.sum_cons,List.sum_nil]; omega) | (omega)))
  clear hvv2 hbb2
  go_wp2_with fail
  go_ret
  exact ⟨_,rfl,HVF.out,HC2x.out,HK2x.out⟩
 obtain ⟨ihe,iht,ihc,ihs,hb1,hb2⟩:=IH.out hdp
 have HE:=Lib.hid ihe
 have HT:=Lib.hid iht
 have HCA:=Lib.hid ihc
 have HSY:=Lib.hid ihs
 unfold ExprOk at HE
 unfold TargetOk at HT
 unfold CallOk at HCA
 unfold SyncOk at HSY
 clear ihe iht ihc ihs IH
 have hks : k = 5 ∨ k = 6 ∨ k = 7 ∨ k = 8 ∨ k = 9 ∨ k = 10 ∨ k = 11 ∨ k = 12 ∨ k = 13 ∨ k = 14 ∨ k = 15:=by omega
 clear hk16 hk5
 rcases hks with rfl | rfl | rfl | rfl | rfl | rfl | rfl | rfl | rfl | rfl | rfl
 ·have HF1x:=Lib.hid (next_any C 17 w1 HC1.out (by omega) (by omega))
  go_wp2_with fail
  ((with_reducible refine HF1x.out.mono ?_))
  rintro e w1x ⟨kn,rfl,hkn,hcc1,hkk1⟩
  have hkn' : (kn : Int) < 17:=hkn
  have HK1x:=Lib.hid (HK1.out.trans hkk1)
  have HC1x:=Lib.hid hcc1
  clear hcc1 hkk1 HF1x
  have HF2x:=Lib.hid (HE.out a w1x ha0 ha7 HC1x.out)
  unfold GPost at HF2x
  go_wp2_with fail
  ((with_reducible refine HF2x.out.mono ?_))
  rintro e w2x ⟨v2x,rfl,hvv2,hcc2,hkk2⟩
  obtain ⟨a2x,n2x,c2x,rfl⟩:=hvv2.form
  have HK2x:=Lib.hid (HK1x.out.trans hkk2)
  have HC2x:=Lib.hid hcc2
  have HT2x:=Lib.hid (hvv2.base (B':=0) (Nat.zero_le _))
  clear hvv2 hcc2 hkk2 HF2x
  have HF3x:=Lib.hid (HE.out a w2x ha0 ha7 HC2x.out)
  unfold GPost at HF3x
  go_wp2_with fail
  ((with_reducible refine HF3x.out.mono ?_))
  rintro e w3x ⟨v3x,rfl,hvv3,hcc3,hkk3⟩
  obtain ⟨a3x,n3x,c3x,rfl⟩:=hvv3.form
  have HT2xq3:=Lib.hid (HT2x.out.keep HC2x.out hkk3)
  have HK3x:=Lib.hid (HK2x.out.trans hkk3)
  have HC3x:=Lib.hid hcc3
  have HT3x:=Lib.hid (hvv3.base (B':=0) (Nat.zero_le _))
  clear hvv3 hcc3 hkk3 HF3x
  have hal4 : Below w3x.heap.size w3x (w3x.alloc (.cells #[.slice a2x n2x c2x,.slice a3x n3x c3x] 24)):=(Below.refl _ _).alloc (Nat.le_refl _) _
  have HKL4:=Lib.hid (KSl.lit w3x [.slice a2x n2x c2x,.slice a3x n3x c3x] 2 rfl)
  have HT2xq3z:=Lib.hid (HT2xq3.out.below hal4)
  have HT3xz:=Lib.hid (HT3x.out.below hal4)
  have HCz4:=Lib.hid (HC3x.out.keep hal4)
  have HKz4:=Lib.hid (HK3x.out.trans (Keep.of hal4))
  have HF4x:=Lib.hid (kNode_any (60 + (kn : Int)) _ [.slice a2x n2x c2x,.slice a3x n3x c3x] [E,E] (w3x.alloc (.cells #[.slice a2x n2x c2x,.slice a3x n3x c3x] 24)) (fun h => by unfold NestP at h; omega) HKL4.out rfl (fun i h1 h2 => by
   match i,h1 with
   | 0,_ => exact HT2xq3z.out
   | 1,_ => exact HT3xz.out) (by simp) (by simp only [List.sum_cons,List.sum_nil]; omega))
  go_wp2_with fail
  ((with_reducible refine HF4x.out.mono ?_))
  rintro e w4x ⟨v4x,rfl,hvv4,hbb4⟩
  have HK4x:=Lib.hid (HKz4.out.trans (Keep.of hbb4))
  have HC4x:=Lib.hid (HCz4.out.keep hbb4)
  have HVF:=Lib.hid ((hvv4.base (B':=w.heap.size) HKz4.out.size).more (M:=N) (by first | (simp only [List.sum_cons,List.sum_nil]; omega) | (omega)))
  clear hvv4 hbb4
  go_wp2_with fail
  go_ret
  exact ⟨_,rfl,HVF.out,HC4x.out,HK4x.out⟩
 ·have HF1x:=Lib.hid (next_any C 17 w1 HC1.out (by omega) (by omega))
  go_wp2_with fail
  ((with_reducible refine HF1x.out.mono ?_))
  rintro e w1x ⟨kn,rfl,hkn,hcc1,hkk1⟩
  have hkn' : (kn : Int) < 17:=hkn
  have HK1x:=Lib.hid (HK1.out.trans hkk1)
  have HC1x:=Lib.hid hcc1
  clear hcc1 hkk1 HF1x
  have HF2x:=Lib.hid (HE.out a w1x ha0 ha7 HC1x.out)
  unfold GPost at HF2x
  go_wp2_with fail
  ((with_reducible refine HF2x.out.mono ?_))
  rintro e w2x ⟨v2x,rfl,hvv2,hcc2,hkk2⟩
  obtain ⟨a2x,n2x,c2x,rfl⟩:=hvv2.form
  have HK2x:=Lib.hid (HK1x.out.trans hkk2)
  have HC2x:=Lib.hid hcc2
  have HT2x:=Lib.hid (hvv2.base (B':=0) (Nat.zero_le _))
  clear hvv2 hcc2 hkk2 HF2x
  have HF3x:=Lib.hid (HE.out a w2x ha0 ha7 HC2x.out)
  unfold GPost at HF3x
  go_wp2_with fail
  ((with_reducible refine HF3x.out.mono ?_))
  rintro e w3x ⟨v3x,rfl,hvv3,hcc3,hkk3⟩
  obtain ⟨a3x,n3x,c3x,rfl⟩:=hvv3.form
  have HT2xq3:=Lib.hid (HT2x.out.keep HC2x.out hkk3)
  have HK3x:=Lib.hid (HK2x.out.trans hkk3)
  have HC3x:=Lib.hid hcc3
  have HT3x:=Lib.hid (hvv3.base (B':=0) (Nat.zero_le _))
  clear hvv3 hcc3 hkk3 HF3x
  have hal4 : Below w3x.heap.size w3x (w3x.alloc (.cells #[.slice a2x n2x c2x,.slice a3x n3x c3x] 24)):=(Below.refl _ _).alloc (Nat.le_refl _) _
  have HKL4:=Lib.hid (KSl.lit w3x [.slice a2x n2x c2x,.slice a3x n3x c3x] 2 rfl)
  have HT2xq3z:=Lib.hid (HT2xq3.out.below hal4)
  have HT3xz:=Lib.hid (HT3x.out.below hal4)
  have HCz4:=Lib.hid (HC3x.out.keep hal4)
  have HKz4:=Lib.hid (HK3x.out.trans (Keep.of hal4))
  have HF4x:=Lib.hid (kNode_any (60 + (kn : Int)) _ [.slice a2x n2x c2x,.slice a3x n3x c3x] [E,E] (w3x.alloc (.cells #[.slice a2x n2x c2x,.slice a3x n3x c3x] 24)) (fun h => by unfold NestP at h; omega) HKL4.out rfl (fun i h1 h2 => by
   match i,h1 with
   | 0,_ => exact HT2xq3z.out
   | 1,_ => exact HT3xz.out) (by simp) (by simp only [List.sum_cons,List.sum_nil]; omega))
  go_wp2_with fail
  ((with_reducible refine HF4x.out.mono ?_))
  rintro e w4x ⟨v4x,rfl,hvv4,hbb4⟩
  have HK4x:=Lib.hid (HKz4.out.trans (Keep.of hbb4))
  have HC4x:=Lib.hid (HCz4.out.keep hbb4)
  have HVF:=Lib.hid ((hvv4.base (B':=w.heap.size) HKz4.out.size).more (M:=N) (by first | (simp only [List.sum_cons,List.sum_nil]; omega) | (omega)))
  clear hvv4 hbb4
  go_wp2_with fail
  go_ret
  exact ⟨_,rfl,HVF.out,HC4x.out,HK4x.out⟩
 ·have HF1x:=Lib.hid (next_any C 17 w1 HC1.out (by omega) (by omega))
  go_wp2_with fail
  ((with_reducible refine HF1x.out.mono ?_))
  rintro e w1x ⟨kn,rfl,hkn,hcc1,hkk1⟩
  have hkn' : (kn : Int) < 17:=hkn
  have HK1x:=Lib.hid (HK1.out.trans hkk1)
  have HC1x:=Lib.hid hcc1
  clear hcc1 hkk1 HF1x
  have HF2x:=Lib.hid (HE.out a w1x ha0 ha7 HC1x.out)
  unfold GPost at HF2x
  go_wp2_with fail
  ((with_reducible refine HF2x.out.mono ?_))
  rintro e w2x ⟨v2x,rfl,hvv2,hcc2,hkk2⟩
  obtain ⟨a2x,n2x,c2x,rfl⟩:=hvv2.form
  have HK2x:=Lib.hid (HK1x.out.trans hkk2)
  have HC2x:=Lib.hid hcc2
  have HT2x:=Lib.hid (hvv2.base (B':=0) (Nat.zero_le _))
  clear hvv2 hcc2 hkk2 HF2x
  have HF3x:=Lib.hid (HE.out a w2x ha0 ha7 HC2x.out)
  unfold GPost at HF3x
  go_wp2_with fail
  ((with_reducible refine HF3x.out.mono ?_))
  rintro e w3x ⟨v3x,rfl,hvv3,hcc3,hkk3⟩
  obtain ⟨a3x,n3x,c3x,rfl⟩:=hvv3.form
  have HT2xq3:=Lib.hid (HT2x.out.keep HC2x.out hkk3)
  have HK3x:=Lib.hid (HK2x.out.trans hkk3)
  have HC3x:=Lib.hid hcc3
  have HT3x:=Lib.hid (hvv3.base (B':=0) (Nat.zero_le _))
  clear hvv3 hcc3 hkk3 HF3x
  have hal4 : Below w3x.heap.size w3x (w3x.alloc (.cells #[.slice a2x n2x c2x,.slice a3x n3x c3x] 24)):=(Below.refl _ _).alloc (Nat.le_refl _) _
  have HKL4:=Lib.hid (KSl.lit w3x [.slice a2x n2x c2x,.slice a3x n3x c3x] 2 rfl)
  have HT2xq3z:=Lib.hid (HT2xq3.out.below hal4)
  have HT3xz:=Lib.hid (HT3x.out.below hal4)
  have HCz4:=Lib.hid (HC3x.out.keep hal4)
  have HKz4:=Lib.hid (HK3x.out.trans (Keep.of hal4))
  have HF4x:=Lib.hid (kNode_any (60 + (kn : Int)) _ [.slice a2x n2x c2x,.slice a3x n3x c3x] [E,E] (w3x.alloc (.cells #[.slice a2x n2x c2x,.slice a3x n3x c3x] 24)) (fun h => by unfold NestP at h; omega) HKL4.out rfl (fun i h1 h2 => by
   match i,h1 with
   | 0,_ => exact HT2xq3z.out
   | 1,_ => exact HT3xz.out) (by simp) (by simp only [List.sum_cons,List.sum_nil]; omega))
  go_wp2_with fail
  ((with_reducible refine HF4x.out.mono ?_))
  rintro e w4x ⟨v4x,rfl,hvv4,hbb4⟩
  have HK4x:=Lib.hid (HKz4.out.trans (Keep.of hbb4))
  have HC4x:=Lib.hid (HCz4.out.keep hbb4)
  have HVF:=Lib.hid ((hvv4.base (B':=w.heap.size) HKz4.out.size).more (M:=N) (by first | (simp only [List.sum_cons,List.sum_nil]; omega) | (omega)))
  clear hvv4 hbb4
  go_wp2_with fail
  go_ret
  exact ⟨_,rfl,HVF.out,HC4x.out,HK4x.out⟩
 ·have HF1x:=Lib.hid (next_any C 8 w1 HC1.out (by omega) (by omega))
  go_wp2_with fail
  ((with_reducible refine HF1x.out.mono ?_))
  rintro e w1x ⟨kn,rfl,hkn,hcc1,hkk1⟩
  have hkn' : (kn : Int) < 8:=hkn
  have HK1x:=Lib.hid (HK1.out.trans hkk1)
  have HC1x:=Lib.hid hcc1
  clear hcc1 hkk1 HF1x
  have HF2x:=Lib.hid (HE.out a w1x ha0 ha7 HC1x.out)
  unfold GPost at HF2x
  go_wp2_with fail
  ((with_reducible refine HF2x.out.mono ?_))
  rintro e w2x ⟨v2x,rfl,hvv2,hcc2,hkk2⟩
  obtain ⟨a2x,n2x,c2x,rfl⟩:=hvv2.form
  have HK2x:=Lib.hid (HK1x.out.trans hkk2)
  have HC2x:=Lib.hid hcc2
  have HT2x:=Lib.hid (hvv2.base (B':=0) (Nat.zero_le _))
  clear hvv2 hcc2 hkk2 HF2x
  have hal3 : Below w2x.heap.size w2x (w2x.alloc (.cells #[.slice a2x n2x c2x] 24)):=(Below.refl _ _).alloc (Nat.le_refl _) _
  have HKL3:=Lib.hid (KSl.lit w2x [.slice a2x n2x c2x] 1 rfl)
  have HT2xz:=Lib.hid (HT2x.out.below hal3)
  have HCz3:=Lib.hid (HC2x.out.keep hal3)
  have HKz3:=Lib.hid (HK2x.out.trans (Keep.of hal3))
  have HF3x:=Lib.hid (kNode_any (77 + (kn : Int)) _ [.slice a2x n2x c2x] [E] (w2x.alloc (.cells #[.slice a2x n2x c2x] 24)) (fun h => by unfold NestP at h; omega) HKL3.out rfl (fun i h1 h2 => by
   match i,h1 with
   | 0,_ => exact HT2xz.out) (by simp) (by simp only [List.sum_cons,List.sum_nil]; omega))
  go_wp2_with fail
  ((with_reducible refine HF3x.out.mono ?_))
  rintro e w3x ⟨v3x,rfl,hvv3,hbb3⟩
  have HK3x:=Lib.hid (HKz3.out.trans (Keep.of hbb3))
  have HC3x:=Lib.hid (HCz3.out.keep hbb3)
  have HVF:=Lib.hid ((hvv3.base (B':=w.heap.size) HKz3.out.size).more (M:=N) (by first | (simp only [List.sum_cons,List.sum_nil]; omega) | (omega)))
  clear hvv3 hbb3
  go_wp2_with fail
  go_ret
  exact ⟨_,rfl,HVF.out,HC3x.out,HK3x.out⟩
 ·have HF1x:=Lib.hid (next_any C 8 w1 HC1.out (by omega) (by omega))
  go_wp2_with fail
  ((with_reducible refine HF1x.out.mono ?_))
  rintro e w1x ⟨kn,rfl,hkn,hcc1,hkk1⟩
  have hkn' : (kn : Int) < 8:=hkn
  have HK1x:=Lib.hid (HK1.out.trans hkk1)
  have HC1x:=Lib.hid hcc1
  clear hcc1 hkk1 HF1x
  have HF2x:=Lib.hid (HE.out a w1x ha0 ha7 HC1x.out)
  unfold GPost at HF2x
  go_wp2_with fail
  ((with_reducible refine HF2x.out.mono ?_))
  rintro e w2x ⟨v2x,rfl,hvv2,hcc2,hkk2⟩
  obtain ⟨a2x,n2x,c2x,rfl⟩:=hvv2.form
  have HK2x:=Lib.hid (HK1x.out.trans hkk2)
  have HC2x:=Lib.hid hcc2
  have HT2x:=Lib.hid (hvv2.base (B':=0) (Nat.zero_le _))
  clear hvv2 hcc2 hkk2 HF2x
  have hal3 : Below w2x.heap.size w2x (w2x.alloc (.cells #[.slice a2x n2x c2x] 24)):=(Below.refl _ _).alloc (Nat.le_refl _) _
  have HKL3:=Lib.hid (KSl.lit w2x [.slice a2x n2x c2x] 1 rfl)
  have HT2xz:=Lib.hid (HT2x.out.below hal3)
  have HCz3:=Lib.hid (HC2x.out.keep hal3)
  have HKz3:=Lib.hid (HK2x.out.trans (Keep.of hal3))
  have HF3x:=Lib.hid (kNode_any (77 + (kn : Int)) _ [.slice a2x n2x c2x] [E] (w2x.alloc (.cells #[.slice a2x n2x c2x] 24)) (fun h => by unfold NestP at h; omega) HKL3.out rfl (fun i h1 h2 => by
   match i,h1 with
   | 0,_ => exact HT2xz.out) (by simp) (by simp only [List.sum_cons,List.sum_nil]; omega))
  go_wp2_with fail
  ((with_reducible refine HF3x.out.mono ?_))
  rintro e w3x ⟨v3x,rfl,hvv3,hbb3⟩
  have HK3x:=Lib.hid (HKz3.out.trans (Keep.of hbb3))
  have HC3x:=Lib.hid (HCz3.out.keep hbb3)
  have HVF:=Lib.hid ((hvv3.base (B':=w.heap.size) HKz3.out.size).more (M:=N) (by first | (simp only [List.sum_cons,List.sum_nil]; omega) | (omega)))
  clear hvv3 hbb3
  go_wp2_with fail
  go_ret
  exact ⟨_,rfl,HVF.out,HC3x.out,HK3x.out⟩
 ·have HF1x:=Lib.hid (HT.out a w1 ha0 ha7 HC1.out)
  unfold GPost at HF1x
  go_wp2_with fail
  ((with_reducible refine HF1x.out.mono ?_))
  rintro e w1x ⟨v1x,rfl,hvv1,hcc1,hkk1⟩
  obtain ⟨a1x,n1x,c1x,rfl⟩:=hvv1.form
  have HK1x:=Lib.hid (HK1.out.trans hkk1)
  have HC1x:=Lib.hid hcc1
  have HT1x:=Lib.hid (hvv1.base (B':=0) (Nat.zero_le _))
  clear hvv1 hcc1 hkk1 HF1x
  have hal2 : Below w1x.heap.size w1x (w1x.alloc (.cells #[.slice a1x n1x c1x] 24)):=(Below.refl _ _).alloc (Nat.le_refl _) _
  have HKL2:=Lib.hid (KSl.lit w1x [.slice a1x n1x c1x] 1 rfl)
  have HT1xz:=Lib.hid (HT1x.out.below hal2)
  have HCz2:=Lib.hid (HC1x.out.keep hal2)
  have HKz2:=Lib.hid (HK1x.out.trans (Keep.of hal2))
  have HF2x:=Lib.hid (kNode_any 85 _ [.slice a1x n1x c1x] [T] (w1x.alloc (.cells #[.slice a1x n1x c1x] 24)) (fun h => by unfold NestP at h; omega) HKL2.out rfl (fun i h1 h2 => by
   match i,h1 with
   | 0,_ => exact HT1xz.out) (by simp) (by simp only [List.sum_cons,List.sum_nil]; omega))
  go_wp2_with fail
  ((with_reducible refine HF2x.out.mono ?_))
  rintro e w2x ⟨v2x,rfl,hvv2,hbb2⟩
  have HK2x:=Lib.hid (HKz2.out.trans (Keep.of hbb2))
  have HC2x:=Lib.hid (HCz2.out.keep hbb2)
  have HVF:=Lib.hid ((hvv2.base (B':=w.heap.size) HKz2.out.size).more (M:=N) (by first | (simp only [List.sum_cons,List.sum_nil]; omega) | (omega)))
  clear hvv2 hbb2
  go_wp2_with fail
  go_ret
  exact ⟨_,rfl,HVF.out,HC2x.out,HK2x.out⟩
 ·have HF1x:=Lib.hid (HT.out a w1 ha0 ha7 HC1.out)
  unfold GPost at HF1x
  go_wp2_with fail
  ((with_reducible refine HF1x.out.mono ?_))
  rintro e w1x ⟨v1x,rfl,hvv1,hcc1,hkk1⟩
  obtain ⟨a1x,n1x,c1x,rfl⟩:=hvv1.form
  have HK1x:=Lib.hid (HK1.out.trans hkk1)
  have HC1x:=Lib.hid hcc1
  have HT1x:=Lib.hid (hvv1.base (B':=0) (Nat.zero_le _))
  clear hvv1 hcc1 hkk1 HF1x
  have hal2 : Below w1x.heap.size w1x (w1x.alloc (.cells #[.slice a1x n1x c1x] 24)):=(Below.refl _ _).alloc (Nat.le_refl _) _
  have HKL2:=Lib.hid (KSl.lit w1x [.slice a1x n1x c1x] 1 rfl)
  have HT1xz:=Lib.hid (HT1x.out.below hal2)
  have HCz2:=Lib.hid (HC1x.out.keep hal2)
  have HKz2:=Lib.hid (HK1x.out.trans (Keep.of hal2))
  have HF2x:=Lib.hid (kNode_any 87 _ [.slice a1x n1x c1x] [T] (w1x.alloc (.cells #[.slice a1x n1x c1x] 24)) (fun h => by unfold NestP at h; omega) HKL2.out rfl (fun i h1 h2 => by
   match i,h1 with
   | 0,_ => exact HT1xz.out) (by simp) (by simp only [List.sum_cons,List.sum_nil]; omega))
  go_wp2_with fail
  ((with_reducible refine HF2x.out.mono ?_))
  rintro e w2x ⟨v2x,rfl,hvv2,hbb2⟩
  have HK2x:=Lib.hid (HKz2.out.trans (Keep.of hbb2))
  have HC2x:=Lib.hid (HCz2.out.keep hbb2)
  have HVF:=Lib.hid ((hvv2.base (B':=w.heap.size) HKz2.out.size).more (M:=N) (by first | (simp only [List.sum_cons,List.sum_nil]; omega) | (omega)))
  clear hvv2 hbb2
  go_wp2_with fail
  go_ret
  exact ⟨_,rfl,HVF.out,HC2x.out,HK2x.out⟩
 ·have HF1x:=Lib.hid (gname_any C w1 HC1.out)
  go_wp2_with fail
  ((with_reducible refine HF1x.out.mono ?_))
  rintro e w1x ⟨sn,rfl,hsn,hcc1,hkk1⟩
  have HK1x:=Lib.hid (HK1.out.trans hkk1)
  have HC1x:=Lib.hid hcc1
  clear hcc1 hkk1 HF1x
  have HF2x:=Lib.hid (nameOf_any sn w1x (by omega))
  go_wp2_with fail
  ((with_reducible refine HF2x.out.mono ?_))
  rintro e w2x ⟨v2x,rfl,hvv2,hbb2⟩
  obtain ⟨a2x,n2x,c2x,rfl⟩:=hvv2.form
  have HK2x:=Lib.hid (HK1x.out.trans (Keep.of hbb2))
  have HC2x:=Lib.hid (HC1x.out.keep hbb2)
  have HT2x:=Lib.hid (hvv2.base (B':=0) (Nat.zero_le _))
  clear hvv2 hbb2 HF2x
  have hal3 : Below w2x.heap.size w2x (w2x.alloc (.cells #[.slice a2x n2x c2x] 24)):=(Below.refl _ _).alloc (Nat.le_refl _) _
  have HKL3:=Lib.hid (KSl.lit w2x [.slice a2x n2x c2x] 1 rfl)
  have HT2xz:=Lib.hid (HT2x.out.below hal3)
  have HCz3:=Lib.hid (HC2x.out.keep hal3)
  have HKz3:=Lib.hid (HK2x.out.trans (Keep.of hal3))
  have HF3x:=Lib.hid (kNode_any 86 _ [.slice a2x n2x c2x] [1] (w2x.alloc (.cells #[.slice a2x n2x c2x] 24)) (fun h => by unfold NestP at h; omega) HKL3.out rfl (fun i h1 h2 => by
   match i,h1 with
   | 0,_ => exact HT2xz.out) (by simp) (by simp only [List.sum_cons,List.sum_nil]; omega))
  go_wp2_with fail
  ((with_reducible refine HF3x.out.mono ?_))
  rintro e w3x ⟨v3x,rfl,hvv3,hbb3⟩
  have HK3x:=Lib.hid (HKz3.out.trans (Keep.of hbb3))
  have HC3x:=Lib.hid (HCz3.out.keep hbb3)
  have HVF:=Lib.hid ((hvv3.base (B':=w.heap.size) HKz3.out.size).more (M:=N) (by first | (simp only [List.sum_cons,List.sum_nil]; omega) | (omega)))
  clear hvv3 hbb3
  go_wp2_with fail
  go_ret
  exact ⟨_,rfl,HVF.out,HC3x.out,HK3x.out⟩
 ·have HF1x:=Lib.hid (HE.out a w1 ha0 ha7 HC1.out)
  unfold GPost at HF1x
  go_wp2_with fail
  ((with_reducible refine HF1x.out.mono ?_))
  rintro e w1x ⟨v1x,rfl,hvv1,hcc1,hkk1⟩
  obtain ⟨a1x,n1x,c1x,rfl⟩:=hvv1.form
  have HK1x:=Lib.hid (HK1.out.trans hkk1)
  have HC1x:=Lib.hid hcc1
  have HT1x:=Lib.hid (hvv1.base (B':=0) (Nat.zero_le _))
  clear hvv1 hcc1 hkk1 HF1x
  have HF2x:=Lib.hid (HE.out a w1x ha0 ha7 HC1x.out)
  unfold GPost at HF2x
  go_wp2_with fail
  ((with_reducible refine HF2x.out.mono ?_))
  rintro e w2x ⟨v2x,rfl,hvv2,hcc2,hkk2⟩
  obtain ⟨a2x,n2x,c2x,rfl⟩:=hvv2.form
  have HT1xq2:=Lib.hid (HT1x.out.keep HC1x.out hkk2)
  have HK2x:=Lib.hid (HK1x.out.trans hkk2)
  have HC2x:=Lib.hid hcc2
  have HT2x:=Lib.hid (hvv2.base (B':=0) (Nat.zero_le _))
  clear hvv2 hcc2 hkk2 HF2x
  have HF3x:=Lib.hid (HE.out a w2x ha0 ha7 HC2x.out)
  unfold GPost at HF3x
  go_wp2_with fail
  ((with_reducible refine HF3x.out.mono ?_))
  rintro e w3x ⟨v3x,rfl,hvv3,hcc3,hkk3⟩
  obtain ⟨a3x,n3x,c3x,rfl⟩:=hvv3.form
  have HT1xq2q3:=Lib.hid (HT1xq2.out.keep HC2x.out hkk3)
  have HT2xq3:=Lib.hid (HT2x.out.keep HC2x.out hkk3)
  have HK3x:=Lib.hid (HK2x.out.trans hkk3)
  have HC3x:=Lib.hid hcc3
  have HT3x:=Lib.hid (hvv3.base (B':=0) (Nat.zero_le _))
  clear hvv3 hcc3 hkk3 HF3x
  have hal4 : Below w3x.heap.size w3x (w3x.alloc (.cells #[.slice a1x n1x c1x,.slice a2x n2x c2x,.slice a3x n3x c3x] 24)):=(Below.refl _ _).alloc (Nat.le_refl _) _
  have HKL4:=Lib.hid (KSl.lit w3x [.slice a1x n1x c1x,.slice a2x n2x c2x,.slice a3x n3x c3x] 3 rfl)
  have HT1xq2q3z:=Lib.hid (HT1xq2q3.out.below hal4)
  have HT2xq3z:=Lib.hid (HT2xq3.out.below hal4)
  have HT3xz:=Lib.hid (HT3x.out.below hal4)
  have HCz4:=Lib.hid (HC3x.out.keep hal4)
  have HKz4:=Lib.hid (HK3x.out.trans (Keep.of hal4))
  have HF4x:=Lib.hid (kNode_any 88 _ [.slice a1x n1x c1x,.slice a2x n2x c2x,.slice a3x n3x c3x] [E,E,E] (w3x.alloc (.cells #[.slice a1x n1x c1x,.slice a2x n2x c2x,.slice a3x n3x c3x] 24)) (fun h => by unfold NestP at h; omega) HKL4.out rfl (fun i h1 h2 => by
   match i,h1 with
   | 0,_ => exact HT1xq2q3z.out
   | 1,_ => exact HT2xq3z.out
   | 2,_ => exact HT3xz.out) (by simp) (by simp only [List.sum_cons,List.sum_nil]; omega))
  go_wp2_with fail
  ((with_reducible refine HF4x.out.mono ?_))
  rintro e w4x ⟨v4x,rfl,hvv4,hbb4⟩
  have HK4x:=Lib.hid (HKz4.out.trans (Keep.of hbb4))
  have HC4x:=Lib.hid (HCz4.out.keep hbb4)
  have HVF:=Lib.hid ((hvv4.base (B':=w.heap.size) HKz4.out.size).more (M:=N) (by first | (simp only [List.sum_cons,List.sum_nil]; omega) | (omega)))
  clear hvv4 hbb4
  go_wp2_with fail
  go_ret
  exact ⟨_,rfl,HVF.out,HC4x.out,HK4x.out⟩
 ·have HF1x:=Lib.hid (HCA.out a w1 ha0 ha7 HC1.out)
  unfold GPost at HF1x
  go_wp2_with fail
  ((with_reducible refine HF1x.out.mono ?_))
  rintro e w1x ⟨v1x,rfl,hvv1,hcc1,hkk1⟩
  have hbb1:=hkk1
  have HK1x:=Lib.hid (HK1.out.trans hkk1)
  have HC1x:=Lib.hid hcc1
  clear hcc1 hkk1
  have HVF:=Lib.hid ((hvv1.base (B':=w.heap.size) HK1.out.size).more (M:=N) (by first | (simp only [List.sum_cons,List.sum_nil]; omega) | (omega)))
  clear hvv1 hbb1
  go_wp2_with fail
  go_ret
  exact ⟨_,rfl,HVF.out,HC1x.out,HK1x.out⟩
 ·have HF1x:=Lib.hid (HSY.out a w1 ha0 ha7 HC1.out)
  unfold GPost at HF1x
  go_wp2_with fail
  ((with_reducible refine HF1x.out.mono ?_))
  rintro e w1x ⟨v1x,rfl,hvv1,hcc1,hkk1⟩
  have hbb1:=hkk1
  have HK1x:=Lib.hid (HK1.out.trans hkk1)
  have HC1x:=Lib.hid hcc1
  clear hcc1 hkk1
  have HVF:=Lib.hid ((hvv1.base (B':=w.heap.size) HK1.out.size).more (M:=N) (by first | (simp only [List.sum_cons,List.sum_nil]; omega) | (omega)))
  clear hvv1 hbb1
  go_wp2_with fail
  go_ret
  exact ⟨_,rfl,HVF.out,HC1x.out,HK1x.out⟩
end
section
open Go.RowKit
theorem target_leaf (C : Nat) (dep : Int) (h : -10 ≤ dep ∧ dep ≤ 0) : TargetOk C dep 1 :=
 target_step C dep 0 1 (by omega) (by omega) (by omega) (fun h2 => by omega)
theorem expr_leaf (C : Nat) (dep : Int) (h : -10 ≤ dep ∧ dep ≤ 0) : ExprOk C dep 21 :=
 expr_step C dep 0 0 21 (by omega) (by omega) (by omega) (target_leaf C 0 (by omega)) (data_ok C 1 (by omega)) (fun h2 => by omega)
theorem call_0 (C : Nat) : CallOk C 0 43:=gcall_step C 0 21 43 (by omega) (by omega) (by omega) (expr_leaf C _ (by omega))
theorem sync_0 (C : Nat) : SyncOk C 0 23:=sync_step C 0 21 23 (by omega) (by omega) (by omega) (by omega) (expr_leaf C _ (by omega))
theorem target_1 (C : Nat) : TargetOk C 1 43:=target_step C 1 21 43 (by omega) (by omega) (by omega) (fun _ => ⟨expr_leaf C _ (by omega),by omega⟩)
theorem call_1 (C N : Nat) (h : 43 ≤ N) : CallOk C 1 N:=gcall_step C 1 21 N (by omega) (by omega) (by omega) (expr_leaf C _ (by omega))
theorem sync_1 (C N : Nat) (h : 43 ≤ N) : SyncOk C 1 N:=sync_step C 1 21 N (by omega) (by omega) (by omega) (by omega) (expr_leaf C _ (by omega))
theorem expr_1 (C : Nat) : ExprOk C 1 64 :=
 expr_step C 1 21 1 64 (by omega) (by omega) (by omega) (target_leaf C 0 (by omega)) (data_ok C 1 (by omega))
  (fun _ => ⟨expr_leaf C _ (by omega),target_leaf C _ (by omega),call_1 C 64 (by omega),sync_1 C 64 (by omega),by omega,by omega⟩)
theorem target_2 (C : Nat) : TargetOk C 2 129:=target_step C 2 64 129 (by omega) (by omega) (by omega) (fun _ => ⟨expr_1 C,by omega⟩)
theorem call_2 (C N : Nat) (h : 129 ≤ N) : CallOk C 2 N:=gcall_step C 2 64 N (by omega) (by omega) (by omega) (expr_1 C)
theorem sync_2 (C N : Nat) (h : 129 ≤ N) : SyncOk C 2 N:=sync_step C 2 64 N (by omega) (by omega) (by omega) (by omega) (expr_1 C)
theorem expr_2 (C : Nat) : ExprOk C 2 193 :=
 expr_step C 2 64 43 193 (by omega) (by omega) (by omega) (target_leaf C 0 (by omega)) (data_ok C 1 (by omega))
  (fun _ => ⟨expr_1 C,target_1 C,call_2 C 193 (by omega),sync_2 C 193 (by omega),by omega,by omega⟩)
end
end Go.Proofs.YtoohondkpddmcaaGreatDoor
