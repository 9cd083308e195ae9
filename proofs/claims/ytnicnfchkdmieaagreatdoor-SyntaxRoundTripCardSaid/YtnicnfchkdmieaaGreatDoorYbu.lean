/- Pj Pk -/
import Derived.Test.YtnicnfchkdmieaaGreatDoorYbt
set_option linter.unusedVariables false
set_option linter.unusedSimpArgs false
namespace Go.Proofs.YtnicnfchkdmieaaGreatDoor
section
open Go.RowKit
attribute [local go_sem] ByteArray.mk_append_mk bs_get bs_cut bs_end
def StmtOk (C : Nat) (dep : Int) (N : Nat) : Prop := ∀ (a : Int) (lp : Bool) (w : World), 0 ≤ a → a ≤ 7 → CSt w C → Calls Tryz.prog 145 #[.pointer (some ⟨C, 0, none⟩), .int .i64 dep, .int .i64 a, .bool lp] w (GPost C N w)
def BlockOk (C : Nat) (dep : Int) (N : Nat) : Prop := ∀ (a : Int) (lp : Bool) (w : World), 0 ≤ a → a ≤ 7 → CSt w C → Calls Tryz.prog 113 #[.pointer (some ⟨C, 0, none⟩), .int .i64 dep, .int .i64 a, .bool lp] w (GPost C N w)
set_option maxRecDepth 100000 in
set_option maxHeartbeats 16000000 in
theorem stmt_step (C : Nat) (dep : Int) (E T B N : Nat) (hd : -10 ≤ dep ∧ dep ≤ 10) (hE : E ≤ 900 ∧ T ≤ 900 ∧ B ≤ 9000) (hN : 23 ≤ N ∧ 1 + E + T ≤ N) (he1 : ExprOk C 1 64) (he0 : ExprOk C 0 21) (he : ExprOk C dep E) (ht : TargetOk C dep T) (hca : CallOk C dep N) (hsy : SyncOk C dep N)
  (ih : 0 < dep → BlockOk C (dep - 1) B ∧ 65 + 2 * B ≤ N ∧ 64 ≤ B ∧ dpN B + 1 ≤ dpN (65 + B)) : StmtOk C dep N := by
 intro a lp w ha0 ha7 hc
 have IH := Lib.hid ih
 have HE1 := Lib.hid he1
 have HE0 := Lib.hid he0
 have HE := Lib.hid he
 have HT := Lib.hid ht
 have HCA := Lib.hid hca
 have HSY := Lib.hid hsy
 unfold ExprOk at HE HE0 HE1
 unfold TargetOk at HT
 unfold CallOk at HCA
 unfold SyncOk at HSY
 have HN := Lib.hid (next_any C 14 w hc (by omega) (by omega))
 clear hc ih he1 he0 he ht hca hsy
 go_enter Tryz.func145, Tryz.ntmps145
 go_wp2_with fail
 ((with_reducible refine HN.out.mono ?_))
 rintro e w1 ⟨k, rfl, hk, hc1, hk1⟩
 have HC1 := Lib.hid hc1
 have HK1 := Lib.hid hk1
 clear hc1 hk1 HN
 by_cases cb : (k = 1 ∨ k = 2) ∧ 0 < dep
 ·obtain ⟨hk12, hdp⟩ := cb
  obtain ⟨ihb, hBN, hB64, hBH⟩ := IH.out hdp
  have HB := Lib.hid ihb
  unfold BlockOk at HB
  clear ihb IH hk
  rcases hk12 with rfl | rfl
  ·have HN2 := Lib.hid (next_any C 2 w1 HC1.out (by omega) (by omega))
   go_wp2_with fail
   ((with_reducible refine HN2.out.mono ?_))
   rintro e w2 ⟨k2, rfl, hk2, hc2, hkk2⟩
   have HC2 := Lib.hid hc2
   have HK2 := Lib.hid (HK1.out.trans hkk2)
   clear hc2 hkk2 HN2
   cases hz : (k2 : Int) == 0 with
   | true =>
     have HF1x := Lib.hid (HE1.out a w2 ha0 ha7 HC2.out)
     unfold GPost at HF1x
     go_wp2_with fail
     ((with_reducible refine HF1x.out.mono ?_))
     rintro e w1x ⟨v1x, rfl, hvv1, hcc1, hkk1⟩
     obtain ⟨a1x, n1x, c1x, rfl⟩ := hvv1.form
     have HK1x := Lib.hid (HK2.out.trans hkk1)
     have HC1x := Lib.hid hcc1
     have HT1x := Lib.hid (hvv1.base (B' := 0) (Nat.zero_le _))
     clear hvv1 hcc1 hkk1 HF1x
     have HF2x := Lib.hid (HB.out a lp w1x ha0 ha7 HC1x.out)
     unfold GPost at HF2x
     go_wp2_with fail
     ((with_reducible refine HF2x.out.mono ?_))
     rintro e w2x ⟨v2x, rfl, hvv2, hcc2, hkk2⟩
     obtain ⟨a2x, n2x, c2x, rfl⟩ := hvv2.form
     have HT1xq2 := Lib.hid (HT1x.out.keep HC1x.out hkk2)
     have HK2x := Lib.hid (HK1x.out.trans hkk2)
     have HC2x := Lib.hid hcc2
     have HT2x := Lib.hid (hvv2.base (B' := 0) (Nat.zero_le _))
     clear hvv2 hcc2 hkk2 HF2x
     have hal3 : Below w2x.heap.size w2x (w2x.alloc (.cells #[.slice a1x n1x c1x, .slice a2x n2x c2x] 33)) := (Below.refl _ _).alloc (Nat.le_refl _) _
     have HKL3 := Lib.hid (KSl.lit w2x [.slice a1x n1x c1x, .slice a2x n2x c2x] 2 rfl)
     have HT1xq2z := Lib.hid (HT1xq2.out.below hal3)
     have HT2xz := Lib.hid (HT2x.out.below hal3)
     have HCz3 := Lib.hid (HC2x.out.keep hal3)
     have HKz3 := Lib.hid (HK2x.out.trans (Keep.of hal3))
     have HF3x := Lib.hid (kNode_any 31 _ [.slice a1x n1x c1x, .slice a2x n2x c2x] [64, B] (w2x.alloc (.cells #[.slice a1x n1x c1x, .slice a2x n2x c2x] 33)) (fun _ => nest_sum (B := B) (K := 65 + B) (by simp only [List.sum_cons, List.sum_nil]; omega) hBH (by intro N hN; simp only [List.mem_cons, List.not_mem_nil, or_false] at hN; omega)) HKL3.out rfl (fun i h1 h2 => by
      match i, h1 with
      | 0, _ => exact HT1xq2z.out
      | 1, _ => exact HT2xz.out) (by simp) (by simp only [List.sum_cons, List.sum_nil]; omega))
     go_wp2_with fail
     ((with_reducible refine HF3x.out.mono ?_))
     rintro e w3x ⟨v3x, rfl, hvv3, hbb3⟩
     have HK3x := Lib.hid (HKz3.out.trans (Keep.of hbb3))
     have HC3x := Lib.hid (HCz3.out.keep hbb3)
     have HVF := Lib.hid ((hvv3.base (B' := w.heap.size) HKz3.out.size).more (M := N) (by first | (simp only [List.sum_cons, List.sum_nil]; omega) | (omega)))
     clear hvv3 hbb3
     go_wp2_with fail
     go_ret
     exact ⟨_, rfl, HVF.out, HC3x.out, HK3x.out⟩
   | false =>
     have HF1x := Lib.hid (HE1.out a w2 ha0 ha7 HC2.out)
     unfold GPost at HF1x
     go_wp2_with fail
     ((with_reducible refine HF1x.out.mono ?_))
     rintro e w1x ⟨v1x, rfl, hvv1, hcc1, hkk1⟩
     obtain ⟨a1x, n1x, c1x, rfl⟩ := hvv1.form
     have HK1x := Lib.hid (HK2.out.trans hkk1)
     have HC1x := Lib.hid hcc1
     have HT1x := Lib.hid (hvv1.base (B' := 0) (Nat.zero_le _))
     clear hvv1 hcc1 hkk1 HF1x
     have HF2x := Lib.hid (HB.out a lp w1x ha0 ha7 HC1x.out)
     unfold GPost at HF2x
     go_wp2_with fail
     ((with_reducible refine HF2x.out.mono ?_))
     rintro e w2x ⟨v2x, rfl, hvv2, hcc2, hkk2⟩
     obtain ⟨a2x, n2x, c2x, rfl⟩ := hvv2.form
     have HT1xq2 := Lib.hid (HT1x.out.keep HC1x.out hkk2)
     have HK2x := Lib.hid (HK1x.out.trans hkk2)
     have HC2x := Lib.hid hcc2
     have HT2x := Lib.hid (hvv2.base (B' := 0) (Nat.zero_le _))
     clear hvv2 hcc2 hkk2 HF2x
     have HF3x := Lib.hid (HB.out a lp w2x ha0 ha7 HC2x.out)
     unfold GPost at HF3x
     go_wp2_with fail
     ((with_reducible refine HF3x.out.mono ?_))
     rintro e w3x ⟨v3x, rfl, hvv3, hcc3, hkk3⟩
     obtain ⟨a3x, n3x, c3x, rfl⟩ := hvv3.form
     have HT1xq2q3 := Lib.hid (HT1xq2.out.keep HC2x.out hkk3)
     have HT2xq3 := Lib.hid (HT2x.out.keep HC2x.out hkk3)
     have HK3x := Lib.hid (HK2x.out.trans hkk3)
     have HC3x := Lib.hid hcc3
     have HT3x := Lib.hid (hvv3.base (B' := 0) (Nat.zero_le _))
     clear hvv3 hcc3 hkk3 HF3x
     have hal4 : Below w3x.heap.size w3x (w3x.alloc (.cells #[.slice a1x n1x c1x, .slice a2x n2x c2x, .slice a3x n3x c3x] 33)) := (Below.refl _ _).alloc (Nat.le_refl _) _
     have HKL4 := Lib.hid (KSl.lit w3x [.slice a1x n1x c1x, .slice a2x n2x c2x, .slice a3x n3x c3x] 3 rfl)
     have HT1xq2q3z := Lib.hid (HT1xq2q3.out.below hal4)
     have HT2xq3z := Lib.hid (HT2xq3.out.below hal4)
     have HT3xz := Lib.hid (HT3x.out.below hal4)
     have HCz4 := Lib.hid (HC3x.out.keep hal4)
     have HKz4 := Lib.hid (HK3x.out.trans (Keep.of hal4))
     have HF4x := Lib.hid (kNode_any 31 _ [.slice a1x n1x c1x, .slice a2x n2x c2x, .slice a3x n3x c3x] [64, B, B] (w3x.alloc (.cells #[.slice a1x n1x c1x, .slice a2x n2x c2x, .slice a3x n3x c3x] 33)) (fun _ => nest_sum (B := B) (K := 65 + B) (by simp only [List.sum_cons, List.sum_nil]; omega) hBH (by intro N hN; simp only [List.mem_cons, List.not_mem_nil, or_false] at hN; omega)) HKL4.out rfl (fun i h1 h2 => by
      match i, h1 with
      | 0, _ => exact HT1xq2q3z.out
      | 1, _ => exact HT2xq3z.out
      | 2, _ => exact HT3xz.out) (by simp) (by simp only [List.sum_cons, List.sum_nil]; omega))
     go_wp2_with fail
     ((with_reducible refine HF4x.out.mono ?_))
     rintro e w4x ⟨v4x, rfl, hvv4, hbb4⟩
     have HK4x := Lib.hid (HKz4.out.trans (Keep.of hbb4))
     have HC4x := Lib.hid (HCz4.out.keep hbb4)
     have HVF := Lib.hid ((hvv4.base (B' := w.heap.size) HKz4.out.size).more (M := N) (by first | (simp only [List.sum_cons, List.sum_nil]; omega) | (omega)))
     clear hvv4 hbb4
     go_wp2_with fail
     go_ret
     exact ⟨_, rfl, HVF.out, HC4x.out, HK4x.out⟩
  ·skip
   have HF1x := Lib.hid (HE1.out a w1 ha0 ha7 HC1.out)
   unfold GPost at HF1x
   go_wp2_with fail
   ((with_reducible refine HF1x.out.mono ?_))
   rintro e w1x ⟨v1x, rfl, hvv1, hcc1, hkk1⟩
   obtain ⟨a1x, n1x, c1x, rfl⟩ := hvv1.form
   have HK1x := Lib.hid (HK1.out.trans hkk1)
   have HC1x := Lib.hid hcc1
   have HT1x := Lib.hid (hvv1.base (B' := 0) (Nat.zero_le _))
   clear hvv1 hcc1 hkk1 HF1x
   have HF2x := Lib.hid (HB.out a true w1x ha0 ha7 HC1x.out)
   unfold GPost at HF2x
   go_wp2_with fail
   ((with_reducible refine HF2x.out.mono ?_))
   rintro e w2x ⟨v2x, rfl, hvv2, hcc2, hkk2⟩
   obtain ⟨a2x, n2x, c2x, rfl⟩ := hvv2.form
   have HT1xq2 := Lib.hid (HT1x.out.keep HC1x.out hkk2)
   have HK2x := Lib.hid (HK1x.out.trans hkk2)
   have HC2x := Lib.hid hcc2
   have HT2x := Lib.hid (hvv2.base (B' := 0) (Nat.zero_le _))
   clear hvv2 hcc2 hkk2 HF2x
   have hal3 : Below w2x.heap.size w2x (w2x.alloc (.cells #[.slice a1x n1x c1x, .slice a2x n2x c2x] 33)) := (Below.refl _ _).alloc (Nat.le_refl _) _
   have HKL3 := Lib.hid (KSl.lit w2x [.slice a1x n1x c1x, .slice a2x n2x c2x] 2 rfl)
   have HT1xq2z := Lib.hid (HT1xq2.out.below hal3)
   have HT2xz := Lib.hid (HT2x.out.below hal3)
   have HCz3 := Lib.hid (HC2x.out.keep hal3)
   have HKz3 := Lib.hid (HK2x.out.trans (Keep.of hal3))
   have HF3x := Lib.hid (kNode_any 32 _ [.slice a1x n1x c1x, .slice a2x n2x c2x] [64, B] (w2x.alloc (.cells #[.slice a1x n1x c1x, .slice a2x n2x c2x] 33)) (fun _ => nest_sum (B := B) (K := 65 + B) (by simp only [List.sum_cons, List.sum_nil]; omega) hBH (by intro N hN; simp only [List.mem_cons, List.not_mem_nil, or_false] at hN; omega)) HKL3.out rfl (fun i h1 h2 => by
    match i, h1 with
    | 0, _ => exact HT1xq2z.out
    | 1, _ => exact HT2xz.out) (by simp) (by simp only [List.sum_cons, List.sum_nil]; omega))
   go_wp2_with fail
   ((with_reducible refine HF3x.out.mono ?_))
   rintro e w3x ⟨v3x, rfl, hvv3, hbb3⟩
   have HK3x := Lib.hid (HKz3.out.trans (Keep.of hbb3))
   have HC3x := Lib.hid (HCz3.out.keep hbb3)
   have HVF := Lib.hid ((hvv3.base (B' := w.heap.size) HKz3.out.size).more (M := N) (by first | (simp only [List.sum_cons, List.sum_nil]; omega) | (omega)))
   clear hvv3 hbb3
   go_wp2_with fail
   go_ret
   exact ⟨_, rfl, HVF.out, HC3x.out, HK3x.out⟩
 have hks : (k = 0 ∨ k = 12 ∨ k = 13 ∨ ((k = 1 ∨ k = 2) ∧ ¬ 0 < dep) ∨ ((k = 4 ∨ k = 5) ∧ lp = false)) ∨ k = 3 ∨ (k = 4 ∧ lp = true) ∨ (k = 5 ∧ lp = true) ∨ k = 6 ∨ k = 7 ∨ k = 8 ∨ k = 9 ∨ k = 10 ∨ k = 11 := by
  cases lp <;> simp <;> omega
 clear cb IH hk
 rcases hks with h | rfl | ⟨rfl, rfl⟩ | ⟨rfl, rfl⟩ | rfl | rfl | rfl | rfl | rfl | rfl
 ·rcases h with rfl | rfl | rfl | ⟨rfl | rfl, hx⟩ | ⟨rfl | rfl, rfl⟩
  all_goals
   have HF1x := Lib.hid (HE.out a w1 ha0 ha7 HC1.out)
   unfold GPost at HF1x
   go_wp2_with fail
   ((with_reducible refine HF1x.out.mono ?_))
   rintro e w1x ⟨v1x, rfl, hvv1, hcc1, hkk1⟩
   obtain ⟨a1x, n1x, c1x, rfl⟩ := hvv1.form
   have HK1x := Lib.hid (HK1.out.trans hkk1)
   have HC1x := Lib.hid hcc1
   have HT1x := Lib.hid (hvv1.base (B' := 0) (Nat.zero_le _))
   clear hvv1 hcc1 hkk1 HF1x
   have HF2x := Lib.hid (HT.out a w1x ha0 ha7 HC1x.out)
   unfold GPost at HF2x
   go_wp2_with fail
   ((with_reducible refine HF2x.out.mono ?_))
   rintro e w2x ⟨v2x, rfl, hvv2, hcc2, hkk2⟩
   obtain ⟨a2x, n2x, c2x, rfl⟩ := hvv2.form
   have HT1xq2 := Lib.hid (HT1x.out.keep HC1x.out hkk2)
   have HK2x := Lib.hid (HK1x.out.trans hkk2)
   have HC2x := Lib.hid hcc2
   have HT2x := Lib.hid (hvv2.base (B' := 0) (Nat.zero_le _))
   clear hvv2 hcc2 hkk2 HF2x
   have hal3 : Below w2x.heap.size w2x (w2x.alloc (.cells #[.slice a1x n1x c1x, .slice a2x n2x c2x] 33)) := (Below.refl _ _).alloc (Nat.le_refl _) _
   have HKL3 := Lib.hid (KSl.lit w2x [.slice a1x n1x c1x, .slice a2x n2x c2x] 2 rfl)
   have HT1xq2z := Lib.hid (HT1xq2.out.below hal3)
   have HT2xz := Lib.hid (HT2x.out.below hal3)
   have HCz3 := Lib.hid (HC2x.out.keep hal3)
   have HKz3 := Lib.hid (HK2x.out.trans (Keep.of hal3))
   have HF3x := Lib.hid (kNode_any 30 _ [.slice a1x n1x c1x, .slice a2x n2x c2x] [E, T] (w2x.alloc (.cells #[.slice a1x n1x c1x, .slice a2x n2x c2x] 33)) (fun h => by unfold NestP at h; omega) HKL3.out rfl (fun i h1 h2 => by
    match i, h1 with
    | 0, _ => exact HT1xq2z.out
    | 1, _ => exact HT2xz.out) (by simp) (by simp only [List.sum_cons, List.sum_nil]; omega))
   go_wp2_with fail
   ((with_reducible refine HF3x.out.mono ?_))
   rintro e w3x ⟨v3x, rfl, hvv3, hbb3⟩
   have HK3x := Lib.hid (HKz3.out.trans (Keep.of hbb3))
   have HC3x := Lib.hid (HCz3.out.keep hbb3)
   have HVF := Lib.hid ((hvv3.base (B' := w.heap.size) HKz3.out.size).more (M := N) (by first | (simp only [List.sum_cons, List.sum_nil]; omega) | (omega)))
   clear hvv3 hbb3
   go_wp2_with fail
   go_ret
   exact ⟨_, rfl, HVF.out, HC3x.out, HK3x.out⟩
 ·have HF1x := Lib.hid (HE.out a w1 ha0 ha7 HC1.out)
  unfold GPost at HF1x
  go_wp2_with fail
  ((with_reducible refine HF1x.out.mono ?_))
  rintro e w1x ⟨v1x, rfl, hvv1, hcc1, hkk1⟩
  obtain ⟨a1x, n1x, c1x, rfl⟩ := hvv1.form
  have HK1x := Lib.hid (HK1.out.trans hkk1)
  have HC1x := Lib.hid hcc1
  have HT1x := Lib.hid (hvv1.base (B' := 0) (Nat.zero_le _))
  clear hvv1 hcc1 hkk1 HF1x
  have hal2 : Below w1x.heap.size w1x (w1x.alloc (.cells #[.slice a1x n1x c1x] 33)) := (Below.refl _ _).alloc (Nat.le_refl _) _
  have HKL2 := Lib.hid (KSl.lit w1x [.slice a1x n1x c1x] 1 rfl)
  have HT1xz := Lib.hid (HT1x.out.below hal2)
  have HCz2 := Lib.hid (HC1x.out.keep hal2)
  have HKz2 := Lib.hid (HK1x.out.trans (Keep.of hal2))
  have HF2x := Lib.hid (kNode_any 33 _ [.slice a1x n1x c1x] [E] (w1x.alloc (.cells #[.slice a1x n1x c1x] 33)) (fun h => by unfold NestP at h; omega) HKL2.out rfl (fun i h1 h2 => by
   match i, h1 with
   | 0, _ => exact HT1xz.out) (by simp) (by simp only [List.sum_cons, List.sum_nil]; omega))
  go_wp2_with fail
  ((with_reducible refine HF2x.out.mono ?_))
  rintro e w2x ⟨v2x, rfl, hvv2, hbb2⟩
  have HK2x := Lib.hid (HKz2.out.trans (Keep.of hbb2))
  have HC2x := Lib.hid (HCz2.out.keep hbb2)
  have HVF := Lib.hid ((hvv2.base (B' := w.heap.size) HKz2.out.size).more (M := N) (by first | (simp only [List.sum_cons, List.sum_nil]; omega) | (omega)))
  clear hvv2 hbb2
  go_wp2_with fail
  go_ret
  exact ⟨_, rfl, HVF.out, HC2x.out, HK2x.out⟩
 ·have HF1x := Lib.hid (kNode_any 34 _ [] [] w1 (fun h => by unfold NestP at h; omega) (KSl.nil _) rfl (fun i h => by cases h) (by simp) (by simp))
  go_wp2_with fail
  ((with_reducible refine HF1x.out.mono ?_))
  rintro e w1x ⟨v1x, rfl, hvv1, hbb1⟩
  have HK1x := Lib.hid (HK1.out.trans (Keep.of hbb1))
  have HC1x := Lib.hid (HC1.out.keep hbb1)
  have HVF := Lib.hid ((hvv1.base (B' := w.heap.size) HK1.out.size).more (M := N) (by first | (simp only [List.sum_cons, List.sum_nil]; omega) | (omega)))
  clear hvv1 hbb1
  go_wp2_with fail
  go_ret
  exact ⟨_, rfl, HVF.out, HC1x.out, HK1x.out⟩
 ·have HF1x := Lib.hid (kNode_any 35 _ [] [] w1 (fun h => by unfold NestP at h; omega) (KSl.nil _) rfl (fun i h => by cases h) (by simp) (by simp))
  go_wp2_with fail
  ((with_reducible refine HF1x.out.mono ?_))
  rintro e w1x ⟨v1x, rfl, hvv1, hbb1⟩
  have HK1x := Lib.hid (HK1.out.trans (Keep.of hbb1))
  have HC1x := Lib.hid (HC1.out.keep hbb1)
  have HVF := Lib.hid ((hvv1.base (B' := w.heap.size) HK1.out.size).more (M := N) (by first | (simp only [List.sum_cons, List.sum_nil]; omega) | (omega)))
  clear hvv1 hbb1
  go_wp2_with fail
  go_ret
  exact ⟨_, rfl, HVF.out, HC1x.out, HK1x.out⟩
 ·have HF1x := Lib.hid (nameOf_any [77, 84, 88] w1 (by simp))
  go_wp2_with fail
  ((with_reducible refine HF1x.out.mono ?_))
  rintro e w1x ⟨v1x, rfl, hvv1, hbb1⟩
  obtain ⟨a1x, n1x, c1x, rfl⟩ := hvv1.form
  have HK1x := Lib.hid (HK1.out.trans (Keep.of hbb1))
  have HC1x := Lib.hid (HC1.out.keep hbb1)
  have HT1x := Lib.hid (hvv1.base (B' := 0) (Nat.zero_le _))
  clear hvv1 hbb1 HF1x
  have hal2 : Below w1x.heap.size w1x (w1x.alloc (.cells #[.slice a1x n1x c1x] 33)) := (Below.refl _ _).alloc (Nat.le_refl _) _
  have HKL2 := Lib.hid (KSl.lit w1x [.slice a1x n1x c1x] 1 rfl)
  have HT1xz := Lib.hid (HT1x.out.below hal2)
  have HCz2 := Lib.hid (HC1x.out.keep hal2)
  have HKz2 := Lib.hid (HK1x.out.trans (Keep.of hal2))
  have HF2x := Lib.hid (kNode_any 36 _ [.slice a1x n1x c1x] [1] (w1x.alloc (.cells #[.slice a1x n1x c1x] 33)) (fun h => by unfold NestP at h; omega) HKL2.out rfl (fun i h1 h2 => by
   match i, h1 with
   | 0, _ => exact HT1xz.out) (by simp) (by simp only [List.sum_cons, List.sum_nil]; omega))
  go_wp2_with fail
  ((with_reducible refine HF2x.out.mono ?_))
  rintro e w2x ⟨v2x, rfl, hvv2, hbb2⟩
  have HK2x := Lib.hid (HKz2.out.trans (Keep.of hbb2))
  have HC2x := Lib.hid (HCz2.out.keep hbb2)
  have HVF := Lib.hid ((hvv2.base (B' := w.heap.size) HKz2.out.size).more (M := N) (by first | (simp only [List.sum_cons, List.sum_nil]; omega) | (omega)))
  clear hvv2 hbb2
  go_wp2_with fail
  go_ret
  exact ⟨_, rfl, HVF.out, HC2x.out, HK2x.out⟩
 ·have HF1x := Lib.hid (next_any C 2 w1 HC1.out (by omega) (by omega))
  go_wp2_with fail
  ((with_reducible refine HF1x.out.mono ?_))
  rintro e w1x ⟨kn, rfl, hkn, hcc1, hkk1⟩
  have hkn' : (kn : Int) < 2 := hkn
  have HK1x := Lib.hid (HK1.out.trans hkk1)
  have HC1x := Lib.hid hcc1
  clear hcc1 hkk1 HF1x
  have HF2x := Lib.hid (nameOf_any [69, 86, 84] w1x (by simp))
  go_wp2_with fail
  ((with_reducible refine HF2x.out.mono ?_))
  rintro e w2x ⟨v2x, rfl, hvv2, hbb2⟩
  obtain ⟨a2x, n2x, c2x, rfl⟩ := hvv2.form
  have HK2x := Lib.hid (HK1x.out.trans (Keep.of hbb2))
  have HC2x := Lib.hid (HC1x.out.keep hbb2)
  have HT2x := Lib.hid (hvv2.base (B' := 0) (Nat.zero_le _))
  clear hvv2 hbb2 HF2x
  have hal3 : Below w2x.heap.size w2x (w2x.alloc (.cells #[.slice a2x n2x c2x] 33)) := (Below.refl _ _).alloc (Nat.le_refl _) _
  have HKL3 := Lib.hid (KSl.lit w2x [.slice a2x n2x c2x] 1 rfl)
  have HT2xz := Lib.hid (HT2x.out.below hal3)
  have HCz3 := Lib.hid (HC2x.out.keep hal3)
  have HKz3 := Lib.hid (HK2x.out.trans (Keep.of hal3))
  have HF3x := Lib.hid (kNode_any (37 + (kn : Int)) _ [.slice a2x n2x c2x] [1] (w2x.alloc (.cells #[.slice a2x n2x c2x] 33)) (fun h => by unfold NestP at h; omega) HKL3.out rfl (fun i h1 h2 => by
   match i, h1 with
   | 0, _ => exact HT2xz.out) (by simp) (by simp only [List.sum_cons, List.sum_nil]; omega))
  go_wp2_with fail
  ((with_reducible refine HF3x.out.mono ?_))
  rintro e w3x ⟨v3x, rfl, hvv3, hbb3⟩
  have HK3x := Lib.hid (HKz3.out.trans (Keep.of hbb3))
  have HC3x := Lib.hid (HCz3.out.keep hbb3)
  have HVF := Lib.hid ((hvv3.base (B' := w.heap.size) HKz3.out.size).more (M := N) (by first | (simp only [List.sum_cons, List.sum_nil]; omega) | (omega)))
  clear hvv3 hbb3
  go_wp2_with fail
  go_ret
  exact ⟨_, rfl, HVF.out, HC3x.out, HK3x.out⟩
 ·have HF1x := Lib.hid (next_any C 4 w1 HC1.out (by omega) (by omega))
  go_wp2_with fail
  ((with_reducible refine HF1x.out.mono ?_))
  rintro e w1x ⟨kn, rfl, hkn, hcc1, hkk1⟩
  have hkn' : (kn : Int) < 4 := hkn
  have HK1x := Lib.hid (HK1.out.trans hkk1)
  have HC1x := Lib.hid hcc1
  clear hcc1 hkk1 HF1x
  have HF2x := Lib.hid (gInt_any kn w1x (by omega))
  go_wp2_with fail
  ((with_reducible refine HF2x.out.mono ?_))
  rintro e w2x ⟨v2x, rfl, hvv2, hbb2⟩
  obtain ⟨a2x, n2x, c2x, rfl⟩ := hvv2.form
  have HK2x := Lib.hid (HK1x.out.trans (Keep.of hbb2))
  have HC2x := Lib.hid (HC1x.out.keep hbb2)
  have HT2x := Lib.hid (hvv2.base (B' := 0) (Nat.zero_le _))
  clear hvv2 hbb2 HF2x
  have hal3 : Below w2x.heap.size w2x (w2x.alloc (.cells #[.slice a2x n2x c2x] 33)) := (Below.refl _ _).alloc (Nat.le_refl _) _
  have HKL3 := Lib.hid (KSl.lit w2x [.slice a2x n2x c2x] 1 rfl)
  have HT2xz := Lib.hid (HT2x.out.below hal3)
  have HCz3 := Lib.hid (HC2x.out.keep hal3)
  have HKz3 := Lib.hid (HK2x.out.trans (Keep.of hal3))
  have HF3x := Lib.hid (kNode_any 39 _ [.slice a2x n2x c2x] [1] (w2x.alloc (.cells #[.slice a2x n2x c2x] 33)) (fun h => by unfold NestP at h; omega) HKL3.out rfl (fun i h1 h2 => by
   match i, h1 with
   | 0, _ => exact HT2xz.out) (by simp) (by simp only [List.sum_cons, List.sum_nil]; omega))
  go_wp2_with fail
  ((with_reducible refine HF3x.out.mono ?_))
  rintro e w3x ⟨v3x, rfl, hvv3, hbb3⟩
  have HK3x := Lib.hid (HKz3.out.trans (Keep.of hbb3))
  have HC3x := Lib.hid (HCz3.out.keep hbb3)
  have HVF := Lib.hid ((hvv3.base (B' := w.heap.size) HKz3.out.size).more (M := N) (by first | (simp only [List.sum_cons, List.sum_nil]; omega) | (omega)))
  clear hvv3 hbb3
  go_wp2_with fail
  go_ret
  exact ⟨_, rfl, HVF.out, HC3x.out, HK3x.out⟩
 ·have HF1x := Lib.hid (gname_any C w1 HC1.out)
  go_wp2_with fail
  ((with_reducible refine HF1x.out.mono ?_))
  rintro e w1x ⟨sn, rfl, hsn, hcc1, hkk1⟩
  have HK1x := Lib.hid (HK1.out.trans hkk1)
  have HC1x := Lib.hid hcc1
  clear hcc1 hkk1 HF1x
  have HF2x := Lib.hid (nameOf_any sn w1x (by omega))
  go_wp2_with fail
  ((with_reducible refine HF2x.out.mono ?_))
  rintro e w2x ⟨v2x, rfl, hvv2, hbb2⟩
  obtain ⟨a2x, n2x, c2x, rfl⟩ := hvv2.form
  have HK2x := Lib.hid (HK1x.out.trans (Keep.of hbb2))
  have HC2x := Lib.hid (HC1x.out.keep hbb2)
  have HT2x := Lib.hid (hvv2.base (B' := 0) (Nat.zero_le _))
  clear hvv2 hbb2 HF2x
  have HF3x := Lib.hid (HE0.out a w2x ha0 ha7 HC2x.out)
  unfold GPost at HF3x
  go_wp2_with fail
  ((with_reducible refine HF3x.out.mono ?_))
  rintro e w3x ⟨v3x, rfl, hvv3, hcc3, hkk3⟩
  obtain ⟨a3x, n3x, c3x, rfl⟩ := hvv3.form
  have HT2xq3 := Lib.hid (HT2x.out.keep HC2x.out hkk3)
  have HK3x := Lib.hid (HK2x.out.trans hkk3)
  have HC3x := Lib.hid hcc3
  have HT3x := Lib.hid (hvv3.base (B' := 0) (Nat.zero_le _))
  clear hvv3 hcc3 hkk3 HF3x
  have hal4 : Below w3x.heap.size w3x (w3x.alloc (.cells #[.slice a2x n2x c2x, .slice a3x n3x c3x] 33)) := (Below.refl _ _).alloc (Nat.le_refl _) _
  have HKL4 := Lib.hid (KSl.lit w3x [.slice a2x n2x c2x, .slice a3x n3x c3x] 2 rfl)
  have HT2xq3z := Lib.hid (HT2xq3.out.below hal4)
  have HT3xz := Lib.hid (HT3x.out.below hal4)
  have HCz4 := Lib.hid (HC3x.out.keep hal4)
  have HKz4 := Lib.hid (HK3x.out.trans (Keep.of hal4))
  have HF4x := Lib.hid (kNode_any 40 _ [.slice a2x n2x c2x, .slice a3x n3x c3x] [1, 21] (w3x.alloc (.cells #[.slice a2x n2x c2x, .slice a3x n3x c3x] 33)) (fun h => by unfold NestP at h; omega) HKL4.out rfl (fun i h1 h2 => by
   match i, h1 with
   | 0, _ => exact HT2xq3z.out
   | 1, _ => exact HT3xz.out) (by simp) (by simp only [List.sum_cons, List.sum_nil]; omega))
  go_wp2_with fail
  ((with_reducible refine HF4x.out.mono ?_))
  rintro e w4x ⟨v4x, rfl, hvv4, hbb4⟩
  have HK4x := Lib.hid (HKz4.out.trans (Keep.of hbb4))
  have HC4x := Lib.hid (HCz4.out.keep hbb4)
  have HVF := Lib.hid ((hvv4.base (B' := w.heap.size) HKz4.out.size).more (M := N) (by first | (simp only [List.sum_cons, List.sum_nil]; omega) | (omega)))
  clear hvv4 hbb4
  go_wp2_with fail
  go_ret
  exact ⟨_, rfl, HVF.out, HC4x.out, HK4x.out⟩
 ·have HF1x := Lib.hid (HCA.out a w1 ha0 ha7 HC1.out)
  unfold GPost at HF1x
  go_wp2_with fail
  ((with_reducible refine HF1x.out.mono ?_))
  rintro e w1x ⟨v1x, rfl, hvv1, hcc1, hkk1⟩
  have hbb1 := hkk1
  have HK1x := Lib.hid (HK1.out.trans hkk1)
  have HC1x := Lib.hid hcc1
  clear hcc1 hkk1
  have HVF := Lib.hid ((hvv1.base (B' := w.heap.size) HK1.out.size).more (M := N) (by first | (simp only [List.sum_cons, List.sum_nil]; omega) | (omega)))
  clear hvv1 hbb1
  go_wp2_with fail
  go_ret
  exact ⟨_, rfl, HVF.out, HC1x.out, HK1x.out⟩
 ·have HF1x := Lib.hid (HSY.out a w1 ha0 ha7 HC1.out)
  unfold GPost at HF1x
  go_wp2_with fail
  ((with_reducible refine HF1x.out.mono ?_))
  rintro e w1x ⟨v1x, rfl, hvv1, hcc1, hkk1⟩
  have hbb1 := hkk1
  have HK1x := Lib.hid (HK1.out.trans hkk1)
  have HC1x := Lib.hid hcc1
  clear hcc1 hkk1
  have HVF := Lib.hid ((hvv1.base (B' := w.heap.size) HK1.out.size).more (M := N) (by first | (simp only [List.sum_cons, List.sum_nil]; omega) | (omega)))
  clear hvv1 hbb1
  go_wp2_with fail
  go_ret
  exact ⟨_, rfl, HVF.out, HC1x.out, HK1x.out⟩
end
section
open Go.RowKit
attribute [local go_sem] ByteArray.mk_append_mk bs_get bs_cut bs_end
theorem NV.head {w : World} {B N : Nat} {a : Option Addr} {n c : Nat} (h : NV w B N (.slice a n c)) : ∃ g op, a = some ⟨g, 0, none⟩ ∧ 1 ≤ n ∧ w.cell? ⟨g, 0, none⟩ = some (.int .i64 op) := by
 obtain ⟨ns, h1, h2, h3, hne, _⟩ := h
 cases ns with
 | nil => exact absurd rfl hne
 | cons t r =>
   have h1' := h1
   rcases h1.2 with ⟨hv, h0⟩ | ⟨g, cap, cur, hv, _⟩
   ·cases h0
   ·injection hv with e1 e2 e3
    subst e1 e2 e3
    refine ⟨g, t.kind, rfl, by simp, ?_⟩
    have := World.ownsRow.cellAt h1' 0 (by rw [List.length_cons]; omega)
    rw [this]
    rfl
set_option maxRecDepth 100000 in
set_option maxHeartbeats 16000000 in
theorem block_step (C : Nat) (dep : Int) (K N : Nat) (hd : -10 ≤ dep ∧ dep ≤ 10) (hK : K ≤ 3000) (hN : 1 + 3 * K ≤ N) (ih : StmtOk C dep K) : BlockOk C dep N := by
 intro a lp w ha0 ha7 hc
 have HE := Lib.hid ih
 unfold StmtOk at HE
 have HCW := Lib.hid hc
 have HN := Lib.hid (next_any C 4 w hc (by omega) (by omega))
 clear hc ih
 go_enter Tryz.func113, Tryz.ntmps113
 go_wp2_with fail
 ((with_reducible refine HN.out.mono ?_))
 rintro e w2 ⟨k2, rfl, hk2, hc3, hk3⟩
 have HK3 := Lib.hid hk3
 have HC3 := Lib.hid hc3
 clear hc3 hk3 HN
 go_wp2_with fail
 go_loopw [9, 10] (fun x i wr => ∃ (v : Value) (vs : List Value) (q : Nat), v = x ∧ i = .int .i64 q ∧ q + vs.length ≤ 3 ∧ Hid (KRow wr w.heap.size v vs) ∧ Hid (NVs wr K vs) ∧ Hid (CSt wr C) ∧ Hid (Keep C w wr)) (fun _ i _ => (intOf i).toNat)
 case atStart => exact ⟨_, [], k2, rfl, rfl, by simp; omega, Lib.hid (KRow.nil _ _), Lib.hid (NVs.nil _ _), HC3, HK3⟩
 case round =>
  clear HC3 HK3
  obtain ⟨v, vs, q, rfl, rfl, hq, HR, HV, HC, HK⟩ := hrel
  obtain ⟨w3, rfl⟩ : ∃ y : World, y = wr := ⟨_, rfl⟩
  by_cases hq0 : 0 < q
  ·have hq1 : (0 : Int) < (q : Int) := by omega
   have HLF := Lib.hid (left_any C w3 HC.out)
   go_wp2_with fail
   ((with_reducible refine HLF.out.mono ?_))
   rintro e w4 ⟨lb, rfl, hc4, hkk4⟩
   have HR4 := Lib.hid (HR.out.keep HC.out hkk4)
   have HV4 := Lib.hid (HV.out.keep HC.out hkk4)
   have HK4 := Lib.hid (HK.out.trans hkk4)
   have HC4 := Lib.hid hc4
   clear hc4 hkk4 HR HV HK HC HLF
   cases lb with
   | false =>
     have HMUL : Hid (vs.length * K ≤ 3 * K) := Lib.hid (Nat.mul_le_mul_right K (by omega))
     obtain ⟨av, cv, rfl⟩ := HR4.out.form
     have HG := Lib.hid (kNode_any 4 _ vs (List.replicate vs.length K) w4 (fun h => by unfold NestP at h; omega) HR4.out.sl (by simp) HV4.out.each (by omega) (by rw [sum_rep]; have := HMUL.out; omega))
     rw [sum_rep] at HG
     go_wp2_with fail
     ((with_reducible refine HG.out.mono ?_))
     rintro e w9 ⟨v9, rfl, hv9, hb9⟩
     have HV9 := Lib.hid ((hv9.base (B' := w.heap.size) HK4.out.size).more (M := N) (by have := HMUL.out; omega))
     have HC9 := Lib.hid (HC4.out.keep hb9)
     have HK9 := Lib.hid (HK4.out.trans (Keep.of hb9))
     clear hv9 hb9
     go_wp2_with fail
     go_ret
     exact ⟨_, rfl, HV9.out, HC9.out, HK9.out⟩
   | true =>
     have HDD := Lib.hid (HE.out a lp w4 ha0 ha7 HC4.out)
     unfold GPost at HDD
     go_wp2_with fail
     ((with_reducible refine HDD.out.mono ?_))
     rintro e w5 ⟨v5, rfl, hv5, hc5, hk5⟩
     obtain ⟨a5, n5, c5, rfl⟩ := hv5.form
     have HR5 := Lib.hid (HR4.out.keep HC4.out hk5)
     have HV5 := Lib.hid (HV4.out.keep HC4.out hk5)
     have HC5 := Lib.hid hc5
     have HK5 := Lib.hid (HK4.out.trans hk5)
     have HT5 := Lib.hid hv5
     clear hv5 hc5 hk5 HR4 HV4 HC4 HK4
     have hal : Below w5.heap.size w5 (w5.alloc (.cells #[.slice a5 n5 c5] 33)) := (Below.refl _ _).alloc (Nat.le_refl _) _
     have HT6 := Lib.hid (HT5.out.below hal)
     have HR6 := Lib.hid (HR5.out.below hal)
     have HV6 := Lib.hid ((HV5.out.below hal).snoc ((HT5.out.below hal).base (Nat.zero_le _)))
     have HC6 := Lib.hid (HC5.out.keep hal)
     have HK6 := Lib.hid (HK5.out.trans (Keep.of hal))
     have HNN : Hid ((w5.alloc (.cells #[.slice a5 n5 c5] 33)).heap[w5.heap.size]? = some (.cells #[.slice a5 n5 c5] 33 (0, 0))) := Lib.hid (heap_alloc_new _ _)
     have hone := HT5.out.one
     clear HR5 HV5 HC5 HK5 hal
     go_wp2_with (at_builtin; refine wpList_append_kid rfl _ _ rfl w.heap.size v vs rfl HR6.out w5.heap.size (.slice a5 n5 c5) hone rfl HNN.out (by omega) HK6.out.size ?_; intro v7 w7 ho hg; have HO := Lib.hid ho; have HG7 := Lib.hid hg; clear ho hg)
     have HV7 := Lib.hid (HV6.out.grownRow HR6.out HG7.out)
     have HC7 := Lib.hid (HC6.out.grown HG7.out (fun g h => by have := own_row HR6.out h; have := HCW.out.lt; omega))
     have HK7 := Lib.hid (HK6.out.grown HG7.out (fun g h => own_row HR6.out h))
     have HT7 := Lib.hid (HT6.out.grownRow HR6.out HG7.out)
     obtain ⟨g5, op5, rfl, hn5, h5⟩ := HT7.out.head
     obtain ⟨m5, rfl⟩ : ∃ m5, n5 = m5 + 1 := ⟨n5 - 1, by omega⟩
     have hn5' : (0 : Int) < ((m5 + 1 : Nat) : Int) := by omega
     have hn6 : (0 : Int) < (m5 : Int) + 1 := by omega
     clear HR6 HV6 HC6 HK6 HNN HG7 hone HT5 HT6 HT7
     go_simp
     by_cases o33 : op5 = 33
     ·subst o33
      obtain ⟨us, hus⟩ : ∃ us, vs ++ [.slice (some ⟨g5, 0, none⟩) (m5 + 1) c5] = us := ⟨_, rfl⟩
      have hul : us.length ≤ 3 := by rw [← hus, List.length_append, List.length_singleton]; omega
      rw [hus] at HO HV7
      clear hus
      have HMUL : Hid (us.length * K ≤ 3 * K) := Lib.hid (Nat.mul_le_mul_right K (by omega))
      obtain ⟨av, cv, rfl⟩ := HO.out.form
      have HG := Lib.hid (kNode_any 4 _ us (List.replicate us.length K) w7 (fun h => by unfold NestP at h; omega) HO.out.sl (by simp) HV7.out.each (by omega) (by rw [sum_rep]; have := HMUL.out; omega))
      rw [sum_rep] at HG
      go_wp2_with fail
      ((with_reducible refine HG.out.mono ?_))
      rintro e w9 ⟨v9, rfl, hv9, hb9⟩
      have HV9 := Lib.hid ((hv9.base (B' := w.heap.size) HK7.out.size).more (M := N) (by have := HMUL.out; omega))
      have HC9 := Lib.hid (HC7.out.keep hb9)
      have HK9 := Lib.hid (HK7.out.trans (Keep.of hb9))
      clear hv9 hb9
      go_wp2_with fail
      go_ret
      exact ⟨_, rfl, HV9.out, HC9.out, HK9.out⟩
     by_cases o34 : op5 = 34
     ·subst o34
      obtain ⟨us, hus⟩ : ∃ us, vs ++ [.slice (some ⟨g5, 0, none⟩) (m5 + 1) c5] = us := ⟨_, rfl⟩
      have hul : us.length ≤ 3 := by rw [← hus, List.length_append, List.length_singleton]; omega
      rw [hus] at HO HV7
      clear hus
      have HMUL : Hid (us.length * K ≤ 3 * K) := Lib.hid (Nat.mul_le_mul_right K (by omega))
      obtain ⟨av, cv, rfl⟩ := HO.out.form
      have HG := Lib.hid (kNode_any 4 _ us (List.replicate us.length K) w7 (fun h => by unfold NestP at h; omega) HO.out.sl (by simp) HV7.out.each (by omega) (by rw [sum_rep]; have := HMUL.out; omega))
      rw [sum_rep] at HG
      go_wp2_with fail
      ((with_reducible refine HG.out.mono ?_))
      rintro e w9 ⟨v9, rfl, hv9, hb9⟩
      have HV9 := Lib.hid ((hv9.base (B' := w.heap.size) HK7.out.size).more (M := N) (by have := HMUL.out; omega))
      have HC9 := Lib.hid (HC7.out.keep hb9)
      have HK9 := Lib.hid (HK7.out.trans (Keep.of hb9))
      clear hv9 hb9
      go_wp2_with fail
      go_ret
      exact ⟨_, rfl, HV9.out, HC9.out, HK9.out⟩
     by_cases o35 : op5 = 35
     ·subst o35
      obtain ⟨us, hus⟩ : ∃ us, vs ++ [.slice (some ⟨g5, 0, none⟩) (m5 + 1) c5] = us := ⟨_, rfl⟩
      have hul : us.length ≤ 3 := by rw [← hus, List.length_append, List.length_singleton]; omega
      rw [hus] at HO HV7
      clear hus
      have HMUL : Hid (us.length * K ≤ 3 * K) := Lib.hid (Nat.mul_le_mul_right K (by omega))
      obtain ⟨av, cv, rfl⟩ := HO.out.form
      have HG := Lib.hid (kNode_any 4 _ us (List.replicate us.length K) w7 (fun h => by unfold NestP at h; omega) HO.out.sl (by simp) HV7.out.each (by omega) (by rw [sum_rep]; have := HMUL.out; omega))
      rw [sum_rep] at HG
      go_wp2_with fail
      ((with_reducible refine HG.out.mono ?_))
      rintro e w9 ⟨v9, rfl, hv9, hb9⟩
      have HV9 := Lib.hid ((hv9.base (B' := w.heap.size) HK7.out.size).more (M := N) (by have := HMUL.out; omega))
      have HC9 := Lib.hid (HC7.out.keep hb9)
      have HK9 := Lib.hid (HK7.out.trans (Keep.of hb9))
      clear hv9 hb9
      go_wp2_with fail
      go_ret
      exact ⟨_, rfl, HV9.out, HC9.out, HK9.out⟩
     have t33 : (op5 == 33) = false := by rw [beq_eq_false_iff_ne]; exact o33
     have t34 : (op5 == 34) = false := by rw [beq_eq_false_iff_ne]; exact o34
     have t35 : (op5 == 35) = false := by rw [beq_eq_false_iff_ne]; exact o35
     go_wp2_with fail
     go_roundw
     case rel => first | exact ⟨vs ++ [.slice (some ⟨g5, 0, none⟩) (m5 + 1) c5], q - 1, by go_num, by rw [List.length_append, List.length_singleton]; omega, HO, HV7, HC7, HK7⟩ | exact ⟨_, vs ++ [.slice (some ⟨g5, 0, none⟩) (m5 + 1) c5], q - 1, rfl, by go_num, by rw [List.length_append, List.length_singleton]; omega, HO, HV7, HC7, HK7⟩
     case measure => simp [intOf]; omega
  ·have hq1 : ¬ (0 : Int) < (q : Int) := by omega
   have HMUL : Hid (vs.length * K ≤ 3 * K) := Lib.hid (Nat.mul_le_mul_right K (by omega))
   obtain ⟨av, cv, rfl⟩ := HR.out.form
   have HG := Lib.hid (kNode_any 4 _ vs (List.replicate vs.length K) w3 (fun h => by unfold NestP at h; omega) HR.out.sl (by simp) HV.out.each (by omega) (by rw [sum_rep]; have := HMUL.out; omega))
   rw [sum_rep] at HG
   go_wp2_with fail
   ((with_reducible refine HG.out.mono ?_))
   rintro e w9 ⟨v9, rfl, hv9, hb9⟩
   have HV9 := Lib.hid ((hv9.base (B' := w.heap.size) HK.out.size).more (M := N) (by have := HMUL.out; omega))
   have HC9 := Lib.hid (HC.out.keep hb9)
   have HK9 := Lib.hid (HK.out.trans (Keep.of hb9))
   clear hv9 hb9
   go_wp2_with fail
   go_ret
   exact ⟨_, rfl, HV9.out, HC9.out, HK9.out⟩
end
end Go.Proofs.YtnicnfchkdmieaaGreatDoor
