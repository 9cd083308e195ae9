/- Ha Gd -/
import Derived.Test.YtnicnfchkdmieaaGreatDoorZi
import Derived.Test.YtnicnfchkdmieaaGreatDoorZk
import Derived.Test.YtnicnfchkdmieaaGreatDoorZGc
set_option linter.unusedVariables false
set_option linter.unusedSimpArgs false
namespace Go.Proofs.YtnicnfchkdmieaaGreatDoor
section
open Go.RowKit
attribute [local go_sem] ByteArray.mk_append_mk bs_get bs_cut bs_end
def wordsP : Bool → List TokI → PT
 | _, [] => []
 | first, t :: r => ((if first = true then [] else [32]), t) :: wordsP false r
theorem words_ln : ∀ (M : List TokI) (first : Bool), (∀ t ∈ M, (fmtT t).length ≤ 65536) → (textP (wordsP first M)).length ≤ 65537 * M.length
 | [], first, h => by rw [wordsP]; simp [textP_nil]
 | t :: r, first, h => by
   rw [wordsP, textP_cons, List.length_append, List.length_append, List.length_cons]
   have h1 := h t (by simp)
   have h2 := words_ln r false (fun x hx => h x (by simp [hx]))
   have h3 : (if first = true then ([] : List UInt8) else [32]).length ≤ 1 := by split <;> simp
   show (if first = true then ([] : List UInt8) else [32]).length + ((fmtT t).length + (textP (wordsP false r)).length) ≤ _
   omega
theorem TSl.belowB {w w' : World} {v : Value} {l : List TokI} (h : TSl w v l) (hb : Below w.heap.size w w') : TSl w' v l := by
 obtain ⟨a, cap, hv, hc⟩ := h
 refine ⟨a, cap, hv, fun hn => ?_⟩
 obtain ⟨b, off, ha, hk⟩ := hc hn
 exact ⟨b, off, ha, fun i hi => (hk i hi).below hb⟩
set_option maxRecDepth 100000 in
set_option maxHeartbeats 16000000 in
theorem rtoks_any (M : List TokI) (v : Value) (w : World) (hv : TSl w v M) (hok : ∀ t ∈ M, OkT t ∧ t.str.length ≤ 65536) (hl : M.length ≤ 70000) :
 Calls Tryz.prog 15 #[v] w fun e w' => e = .returned (.string ⟨(textP (wordsP true M)).toArray⟩) ∧ Below w.heap.size w w' := by
 obtain ⟨T, hT⟩ : ∃ T, textP (wordsP true M) = T := ⟨_, rfl⟩
 have HTL : Hid (T.length ≤ 1000000000000) := Lib.hid (by
  rw [← hT]
  have := words_ln M true (fun t ht => okT_len (hok t ht).1 (hok t ht).2)
  omega)
 have HT0 : Hid ([] ++ textP (wordsP true M) = T) := Lib.hid (by rw [List.nil_append]; exact hT)
 have HV := Lib.hid hv
 have HOK := Lib.hid hok
 have HL0 := Lib.hid hl
 obtain ⟨a, cap, rfl, hc⟩ := hv
 rw [hT]
 obtain ⟨L, hL⟩ : ∃ L, M.length = L := ⟨_, rfl⟩
 have HL := Lib.hid hL
 rw [hL] at HV hl ⊢
 clear hc hT hok hL
 go_enter Tryz.func15, Tryz.ntmps15
 go_wp2_with fail
 go_loopw [3, 4] (fun z i wr => ∃ (k : Nat) (x : List UInt8), z = .string ⟨x.toArray⟩ ∧ i = .int .i64 k ∧ k ≤ L ∧ Hid (x ++ textP (wordsP (decide (k = 0)) (M.drop k)) = T) ∧ Hid (TSl wr (.slice a L cap) M) ∧ Hid (Below w.heap.size w wr)) (fun _ i _ => L - (intOf i).toNat)
 case atStart => exact ⟨0, [], rfl, rfl, by omega, HT0, HV, Lib.hid (Below.refl _ _)⟩
 case round =>
  clear HT0 HV
  obtain ⟨k, x, rfl, rfl, hk, HEQ, HV, HB⟩ := hrel
  obtain ⟨w1, rfl⟩ : ∃ y : World, y = wr := ⟨_, rfl⟩
  by_cases hlt : k < L
  ·have hlt' : (k : Int) < (L : Int) := by omega
   have hkm : k < M.length := by rw [HL.out]; exact hlt
   obtain ⟨t, ht⟩ : ∃ t, M[k] = t := ⟨_, rfl⟩
   have hmem : t ∈ M := by rw [← ht]; exact List.getElem_mem hkm
   obtain ⟨⟨hvt, hn0, hn1⟩, hst⟩ := HOK.out t hmem
   have hdk : M.drop k = t :: M.drop (k + 1) := by rw [List.drop_eq_getElem_cons hkm, ht]
   obtain ⟨R, hR⟩ : ∃ R, textP (wordsP false (M.drop (k + 1))) = R := ⟨_, rfl⟩
   have HR : Hid (textP (wordsP (decide (k + 1 = 0)) (M.drop (k + 1))) = R) := Lib.hid (by rw [show decide (k + 1 = 0) = false from decide_eq_false (by omega)]; exact hR)
   have KV := Lib.hid (fun w => rvalidT_any t w (by omega))
   rw [hvt] at KV
   have HCL : Hid (∀ w', Below w1.heap.size w1 w' → ∃ b off, a = some ⟨b, off, none⟩ ∧ TAtK w' b (off + k * 4) t) := Lib.hid (fun w' hb => by
    obtain ⟨a', cap', e, hc⟩ := HV.out.belowB hb
    injection e with e1 _ _
    subst e1
    obtain ⟨b, off, ha, hkk⟩ := hc (by rintro rfl; simp at hkm)
    have := hkk k hkm
    rw [ht] at this
    exact ⟨b, off, ha, this⟩)
   obtain ⟨b, off, rfl, c0, c1, c2, c3⟩ := HCL.out w1 (Below.refl _ _)
   have hE0 := HEQ.out
   rw [hdk, wordsP, textP_cons, hR] at hE0
   obtain ⟨tk, tn, ts, tp⟩ := t
   simp only at c0 c1 c2 c3 hn0 hn1 hst
   obtain ⟨N, rfl⟩ := Int.eq_ofNat_of_zero_le hn0
   have hks : tk = 1 ∨ tk = 2 ∨ tk = 3 ∨ tk = 4 ∨ tk = 5 ∨ tk = 6 ∨ tk = 7 ∨ tk = 8 ∨ tk = 9 := by
    unfold validT at hvt
    simp only at hvt
    split at hvt
    ·omega
    split at hvt
    ·omega
    split at hvt
    ·omega
    ·have := of_decide_eq_true hvt; omega
   have HNB := Lib.hid hn1
   have HST := Lib.hid hst
   have HVT := Lib.hid hvt
   unfold TokI.val at KV
   simp only [tokV] at KV
   clear HEQ hdk hR hvt ht hmem hkm hn0 hn1 hst
   by_cases hk0 : k = 0
   ·have hk00 : ¬ (k : Int) > 0 := by omega
    rw [show decide (k = 0) = true from decide_eq_true hk0, if_pos rfl] at hE0
    clear hk0
    rcases hks with rfl | rfl | rfl | rfl | rfl | rfl | rfl | rfl | rfl
    ·have HEQ1 : Hid (x ++ ts ++ R = T) := Lib.hid (by rw [← hE0]; unfold fmtT; simp)
     have hxl : x.length + 70000 + 1000 ≤ 2000000000000 := by have h1 := HTL.out; have h2 := congrArg List.length HEQ1.out; simp only [List.length_append, List.length_cons, List.length_nil] at h1 h2; omega
     have hsl : ts.length ≤ 65536 := HST.out
     clear hE0
     go_wp2_with fail
     ((with_reducible refine (KV.out _).mono ?_))
     rintro e w2 ⟨rfl, hb⟩
     have HB2 := Lib.hid (bel_then HB.out (Nat.le_refl _) hb)
     have HV2 := Lib.hid (HV.out.belowB hb)
     obtain ⟨b', off', hbo, d0, d1, d2, d3⟩ := HCL.out w2 hb
     injection hbo with hbo
     injection hbo with hb1 hb2 _
     subst hb1 hb2
     simp only at d0 d1 d2 d3
     clear hb c0 c1 c2 c3 HCL
     go_wp2_with fail
     go_roundw
     case rel => exact ⟨k + 1, x ++ ts, by simp, by go_num, by omega, Lib.hid (by rw [HR.out]; exact HEQ1.out), HV2, HB2⟩
     case measure => simp [intOf]; omega
    ·have HEQ1 : Hid (x ++ ts ++ R = T) := Lib.hid (by rw [← hE0]; unfold fmtT; simp)
     have hxl : x.length + 70000 + 1000 ≤ 2000000000000 := by have h1 := HTL.out; have h2 := congrArg List.length HEQ1.out; simp only [List.length_append, List.length_cons, List.length_nil] at h1 h2; omega
     have hsl : ts.length ≤ 65536 := HST.out
     clear hE0
     go_wp2_with fail
     ((with_reducible refine (KV.out _).mono ?_))
     rintro e w2 ⟨rfl, hb⟩
     have HB2 := Lib.hid (bel_then HB.out (Nat.le_refl _) hb)
     have HV2 := Lib.hid (HV.out.belowB hb)
     obtain ⟨b', off', hbo, d0, d1, d2, d3⟩ := HCL.out w2 hb
     injection hbo with hbo
     injection hbo with hb1 hb2 _
     subst hb1 hb2
     simp only at d0 d1 d2 d3
     clear hb c0 c1 c2 c3 HCL
     go_wp2_with fail
     go_roundw
     case rel => exact ⟨k + 1, x ++ ts, by simp, by go_num, by omega, Lib.hid (by rw [HR.out]; exact HEQ1.out), HV2, HB2⟩
     case measure => simp [intOf]; omega
    ·have HEQ1 : Hid (x ++ (fmtI N) ++ R = T) := Lib.hid (by rw [← hE0]; unfold fmtT; simp)
     have hxl : x.length + 70000 + 1000 ≤ 2000000000000 := by have h1 := HTL.out; have h2 := congrArg List.length HEQ1.out; simp only [List.length_append, List.length_cons, List.length_nil] at h1 h2; omega
     have KF := Lib.hid (fun w => fmtI_any N w (Lib.hid (by have := HNB.out; omega)))
     have hfl := fmtI_len (v := N) (by have := HNB.out; omega)
     obtain ⟨X, hX⟩ : ∃ X, fmtI N = X := ⟨_, rfl⟩
     rw [hX] at KF hfl HEQ1
     clear hX
     clear hE0
     go_wp2_with fail
     ((with_reducible refine (KV.out _).mono ?_))
     rintro e w2 ⟨rfl, hb⟩
     have HB2 := Lib.hid (bel_then HB.out (Nat.le_refl _) hb)
     have HV2 := Lib.hid (HV.out.belowB hb)
     obtain ⟨b', off', hbo, d0, d1, d2, d3⟩ := HCL.out w2 hb
     injection hbo with hbo
     injection hbo with hb1 hb2 _
     subst hb1 hb2
     simp only at d0 d1 d2 d3
     clear hb c0 c1 c2 c3 HCL
     go_wp2_with fail
     ((with_reducible refine (KF.out _).mono ?_))
     rintro e w3 ⟨rfl, rfl⟩
     go_wp2_with fail
     go_roundw
     case rel => exact ⟨k + 1, x ++ X, by simp, by go_num, by omega, Lib.hid (by rw [HR.out]; exact HEQ1.out), HV2, HB2⟩
     case measure => simp [intOf]; omega
    ·have HEQ1 : Hid (x ++ (quoL ts) ++ R = T) := Lib.hid (by rw [← hE0]; unfold fmtT; simp)
     have hxl : x.length + 70000 + 1000 ≤ 2000000000000 := by have h1 := HTL.out; have h2 := congrArg List.length HEQ1.out; simp only [List.length_append, List.length_cons, List.length_nil] at h1 h2; omega
     have KF := Lib.hid (fun w => quo_any ts w (by have := HST.out; omega))
     have hfl : (quoL ts).length ≤ 65536 := okT_len (t := ⟨4, (N : Int), ts, tp⟩) ⟨HVT.out, by show (0 : Int) ≤ (N : Int); omega, HNB.out⟩ HST.out
     obtain ⟨X, hX⟩ : ∃ X, quoL ts = X := ⟨_, rfl⟩
     rw [hX] at KF hfl HEQ1
     clear hX
     clear hE0
     go_wp2_with fail
     ((with_reducible refine (KV.out _).mono ?_))
     rintro e w2 ⟨rfl, hb⟩
     have HB2 := Lib.hid (bel_then HB.out (Nat.le_refl _) hb)
     have HV2 := Lib.hid (HV.out.belowB hb)
     obtain ⟨b', off', hbo, d0, d1, d2, d3⟩ := HCL.out w2 hb
     injection hbo with hbo
     injection hbo with hb1 hb2 _
     subst hb1 hb2
     simp only at d0 d1 d2 d3
     clear hb c0 c1 c2 c3 HCL
     go_wp2_with fail
     ((with_reducible refine (KF.out _).mono ?_))
     rintro e w3 ⟨rfl, rfl⟩
     go_wp2_with fail
     go_roundw
     case rel => exact ⟨k + 1, x ++ X, by simp, by go_num, by omega, Lib.hid (by rw [HR.out]; exact HEQ1.out), HV2, HB2⟩
     case measure => simp [intOf]; omega
    ·have HEQ1 : Hid (x ++ [40] ++ R = T) := Lib.hid (by rw [← hE0]; simp [fmtT, punC])
     have hxl : x.length + 70000 + 1000 ≤ 2000000000000 := by have h1 := HTL.out; have h2 := congrArg List.length HEQ1.out; simp only [List.length_append, List.length_cons, List.length_nil] at h1 h2; omega
     clear hE0
     go_wp2_with fail
     ((with_reducible refine (KV.out _).mono ?_))
     rintro e w2 ⟨rfl, hb⟩
     have HB2 := Lib.hid (bel_then HB.out (Nat.le_refl _) hb)
     have HV2 := Lib.hid (HV.out.belowB hb)
     obtain ⟨b', off', hbo, d0, d1, d2, d3⟩ := HCL.out w2 hb
     injection hbo with hbo
     injection hbo with hb1 hb2 _
     subst hb1 hb2
     simp only at d0 d1 d2 d3
     clear hb c0 c1 c2 c3 HCL
     go_wp2_with fail
     go_quiet (fail)
     have HB3 := Lib.hid (below_drewN HB2.out nq)
     have HV3 := Lib.hid (HV2.out.belowB (below_drewN (Below.refl _ _) nq))
     go_wp2_with fail
     go_roundw
     case rel => exact ⟨k + 1, x ++ [40], by simp, by go_num, by omega, Lib.hid (by rw [HR.out]; exact HEQ1.out), HV3, HB3⟩
     case measure => simp [intOf]; omega
    ·have HEQ1 : Hid (x ++ [41] ++ R = T) := Lib.hid (by rw [← hE0]; simp [fmtT, punC])
     have hxl : x.length + 70000 + 1000 ≤ 2000000000000 := by have h1 := HTL.out; have h2 := congrArg List.length HEQ1.out; simp only [List.length_append, List.length_cons, List.length_nil] at h1 h2; omega
     clear hE0
     go_wp2_with fail
     ((with_reducible refine (KV.out _).mono ?_))
     rintro e w2 ⟨rfl, hb⟩
     have HB2 := Lib.hid (bel_then HB.out (Nat.le_refl _) hb)
     have HV2 := Lib.hid (HV.out.belowB hb)
     obtain ⟨b', off', hbo, d0, d1, d2, d3⟩ := HCL.out w2 hb
     injection hbo with hbo
     injection hbo with hb1 hb2 _
     subst hb1 hb2
     simp only at d0 d1 d2 d3
     clear hb c0 c1 c2 c3 HCL
     go_wp2_with fail
     go_quiet (fail)
     have HB3 := Lib.hid (below_drewN HB2.out nq)
     have HV3 := Lib.hid (HV2.out.belowB (below_drewN (Below.refl _ _) nq))
     go_wp2_with fail
     go_roundw
     case rel => exact ⟨k + 1, x ++ [41], by simp, by go_num, by omega, Lib.hid (by rw [HR.out]; exact HEQ1.out), HV3, HB3⟩
     case measure => simp [intOf]; omega
    ·have HEQ1 : Hid (x ++ [123] ++ R = T) := Lib.hid (by rw [← hE0]; simp [fmtT, punC])
     have hxl : x.length + 70000 + 1000 ≤ 2000000000000 := by have h1 := HTL.out; have h2 := congrArg List.length HEQ1.out; simp only [List.length_append, List.length_cons, List.length_nil] at h1 h2; omega
     clear hE0
     go_wp2_with fail
     ((with_reducible refine (KV.out _).mono ?_))
     rintro e w2 ⟨rfl, hb⟩
     have HB2 := Lib.hid (bel_then HB.out (Nat.le_refl _) hb)
     have HV2 := Lib.hid (HV.out.belowB hb)
     obtain ⟨b', off', hbo, d0, d1, d2, d3⟩ := HCL.out w2 hb
     injection hbo with hbo
     injection hbo with hb1 hb2 _
     subst hb1 hb2
     simp only at d0 d1 d2 d3
     clear hb c0 c1 c2 c3 HCL
     go_wp2_with fail
     go_quiet (fail)
     have HB3 := Lib.hid (below_drewN HB2.out nq)
     have HV3 := Lib.hid (HV2.out.belowB (below_drewN (Below.refl _ _) nq))
     go_wp2_with fail
     go_roundw
     case rel => exact ⟨k + 1, x ++ [123], by simp, by go_num, by omega, Lib.hid (by rw [HR.out]; exact HEQ1.out), HV3, HB3⟩
     case measure => simp [intOf]; omega
    ·have HEQ1 : Hid (x ++ [125] ++ R = T) := Lib.hid (by rw [← hE0]; simp [fmtT, punC])
     have hxl : x.length + 70000 + 1000 ≤ 2000000000000 := by have h1 := HTL.out; have h2 := congrArg List.length HEQ1.out; simp only [List.length_append, List.length_cons, List.length_nil] at h1 h2; omega
     clear hE0
     go_wp2_with fail
     ((with_reducible refine (KV.out _).mono ?_))
     rintro e w2 ⟨rfl, hb⟩
     have HB2 := Lib.hid (bel_then HB.out (Nat.le_refl _) hb)
     have HV2 := Lib.hid (HV.out.belowB hb)
     obtain ⟨b', off', hbo, d0, d1, d2, d3⟩ := HCL.out w2 hb
     injection hbo with hbo
     injection hbo with hb1 hb2 _
     subst hb1 hb2
     simp only at d0 d1 d2 d3
     clear hb c0 c1 c2 c3 HCL
     go_wp2_with fail
     go_quiet (fail)
     have HB3 := Lib.hid (below_drewN HB2.out nq)
     have HV3 := Lib.hid (HV2.out.belowB (below_drewN (Below.refl _ _) nq))
     go_wp2_with fail
     go_roundw
     case rel => exact ⟨k + 1, x ++ [125], by simp, by go_num, by omega, Lib.hid (by rw [HR.out]; exact HEQ1.out), HV3, HB3⟩
     case measure => simp [intOf]; omega
    ·have HEQ1 : Hid (x ++ [44] ++ R = T) := Lib.hid (by rw [← hE0]; simp [fmtT, punC])
     have hxl : x.length + 70000 + 1000 ≤ 2000000000000 := by have h1 := HTL.out; have h2 := congrArg List.length HEQ1.out; simp only [List.length_append, List.length_cons, List.length_nil] at h1 h2; omega
     clear hE0
     go_wp2_with fail
     ((with_reducible refine (KV.out _).mono ?_))
     rintro e w2 ⟨rfl, hb⟩
     have HB2 := Lib.hid (bel_then HB.out (Nat.le_refl _) hb)
     have HV2 := Lib.hid (HV.out.belowB hb)
     obtain ⟨b', off', hbo, d0, d1, d2, d3⟩ := HCL.out w2 hb
     injection hbo with hbo
     injection hbo with hb1 hb2 _
     subst hb1 hb2
     simp only at d0 d1 d2 d3
     clear hb c0 c1 c2 c3 HCL
     go_wp2_with fail
     go_quiet (fail)
     have HB3 := Lib.hid (below_drewN HB2.out nq)
     have HV3 := Lib.hid (HV2.out.belowB (below_drewN (Below.refl _ _) nq))
     go_wp2_with fail
     go_roundw
     case rel => exact ⟨k + 1, x ++ [44], by simp, by go_num, by omega, Lib.hid (by rw [HR.out]; exact HEQ1.out), HV3, HB3⟩
     case measure => simp [intOf]; omega
   ·have hk00 : (k : Int) > 0 := by omega
    rw [show decide (k = 0) = false from decide_eq_false hk0, if_neg (by decide)] at hE0
    clear hk0
    rcases hks with rfl | rfl | rfl | rfl | rfl | rfl | rfl | rfl | rfl
    ·have HEQ1 : Hid (x ++ ([32] ++ ts) ++ R = T) := Lib.hid (by rw [← hE0]; unfold fmtT; simp)
     have hxl : x.length + 70000 + 1000 ≤ 2000000000000 := by have h1 := HTL.out; have h2 := congrArg List.length HEQ1.out; simp only [List.length_append, List.length_cons, List.length_nil] at h1 h2; omega
     have hsl : ts.length ≤ 65536 := HST.out
     clear hE0
     go_wp2_with fail
     ((with_reducible refine (KV.out _).mono ?_))
     rintro e w2 ⟨rfl, hb⟩
     have HB2 := Lib.hid (bel_then HB.out (Nat.le_refl _) hb)
     have HV2 := Lib.hid (HV.out.belowB hb)
     obtain ⟨b', off', hbo, d0, d1, d2, d3⟩ := HCL.out w2 hb
     injection hbo with hbo
     injection hbo with hb1 hb2 _
     subst hb1 hb2
     simp only at d0 d1 d2 d3
     clear hb c0 c1 c2 c3 HCL
     go_wp2_with fail
     go_roundw
     case rel => exact ⟨k + 1, x ++ ([32] ++ ts), by simp, by go_num, by omega, Lib.hid (by rw [HR.out]; exact HEQ1.out), HV2, HB2⟩
     case measure => simp [intOf]; omega
    ·have HEQ1 : Hid (x ++ ([32] ++ ts) ++ R = T) := Lib.hid (by rw [← hE0]; unfold fmtT; simp)
     have hxl : x.length + 70000 + 1000 ≤ 2000000000000 := by have h1 := HTL.out; have h2 := congrArg List.length HEQ1.out; simp only [List.length_append, List.length_cons, List.length_nil] at h1 h2; omega
     have hsl : ts.length ≤ 65536 := HST.out
     clear hE0
     go_wp2_with fail
     ((with_reducible refine (KV.out _).mono ?_))
     rintro e w2 ⟨rfl, hb⟩
     have HB2 := Lib.hid (bel_then HB.out (Nat.le_refl _) hb)
     have HV2 := Lib.hid (HV.out.belowB hb)
     obtain ⟨b', off', hbo, d0, d1, d2, d3⟩ := HCL.out w2 hb
     injection hbo with hbo
     injection hbo with hb1 hb2 _
     subst hb1 hb2
     simp only at d0 d1 d2 d3
     clear hb c0 c1 c2 c3 HCL
     go_wp2_with fail
     go_roundw
     case rel => exact ⟨k + 1, x ++ ([32] ++ ts), by simp, by go_num, by omega, Lib.hid (by rw [HR.out]; exact HEQ1.out), HV2, HB2⟩
     case measure => simp [intOf]; omega
    ·have HEQ1 : Hid (x ++ ([32] ++ (fmtI N)) ++ R = T) := Lib.hid (by rw [← hE0]; unfold fmtT; simp)
     have hxl : x.length + 70000 + 1000 ≤ 2000000000000 := by have h1 := HTL.out; have h2 := congrArg List.length HEQ1.out; simp only [List.length_append, List.length_cons, List.length_nil] at h1 h2; omega
     have KF := Lib.hid (fun w => fmtI_any N w (Lib.hid (by have := HNB.out; omega)))
     have hfl := fmtI_len (v := N) (by have := HNB.out; omega)
     obtain ⟨X, hX⟩ : ∃ X, fmtI N = X := ⟨_, rfl⟩
     rw [hX] at KF hfl HEQ1
     clear hX
     clear hE0
     go_wp2_with fail
     ((with_reducible refine (KV.out _).mono ?_))
     rintro e w2 ⟨rfl, hb⟩
     have HB2 := Lib.hid (bel_then HB.out (Nat.le_refl _) hb)
     have HV2 := Lib.hid (HV.out.belowB hb)
     obtain ⟨b', off', hbo, d0, d1, d2, d3⟩ := HCL.out w2 hb
     injection hbo with hbo
     injection hbo with hb1 hb2 _
     subst hb1 hb2
     simp only at d0 d1 d2 d3
     clear hb c0 c1 c2 c3 HCL
     go_wp2_with fail
     ((with_reducible refine (KF.out _).mono ?_))
     rintro e w3 ⟨rfl, rfl⟩
     go_wp2_with fail
     go_roundw
     case rel => exact ⟨k + 1, x ++ ([32] ++ X), by simp, by go_num, by omega, Lib.hid (by rw [HR.out]; exact HEQ1.out), HV2, HB2⟩
     case measure => simp [intOf]; omega
    ·have HEQ1 : Hid (x ++ ([32] ++ (quoL ts)) ++ R = T) := Lib.hid (by rw [← hE0]; unfold fmtT; simp)
     have hxl : x.length + 70000 + 1000 ≤ 2000000000000 := by have h1 := HTL.out; have h2 := congrArg List.length HEQ1.out; simp only [List.length_append, List.length_cons, List.length_nil] at h1 h2; omega
     have KF := Lib.hid (fun w => quo_any ts w (by have := HST.out; omega))
     have hfl : (quoL ts).length ≤ 65536 := okT_len (t := ⟨4, (N : Int), ts, tp⟩) ⟨HVT.out, by show (0 : Int) ≤ (N : Int); omega, HNB.out⟩ HST.out
     obtain ⟨X, hX⟩ : ∃ X, quoL ts = X := ⟨_, rfl⟩
     rw [hX] at KF hfl HEQ1
     clear hX
     clear hE0
     go_wp2_with fail
     ((with_reducible refine (KV.out _).mono ?_))
     rintro e w2 ⟨rfl, hb⟩
     have HB2 := Lib.hid (bel_then HB.out (Nat.le_refl _) hb)
     have HV2 := Lib.hid (HV.out.belowB hb)
     obtain ⟨b', off', hbo, d0, d1, d2, d3⟩ := HCL.out w2 hb
     injection hbo with hbo
     injection hbo with hb1 hb2 _
     subst hb1 hb2
     simp only at d0 d1 d2 d3
     clear hb c0 c1 c2 c3 HCL
     go_wp2_with fail
     ((with_reducible refine (KF.out _).mono ?_))
     rintro e w3 ⟨rfl, rfl⟩
     go_wp2_with fail
     go_roundw
     case rel => exact ⟨k + 1, x ++ ([32] ++ X), by simp, by go_num, by omega, Lib.hid (by rw [HR.out]; exact HEQ1.out), HV2, HB2⟩
     case measure => simp [intOf]; omega
    ·have HEQ1 : Hid (x ++ ([32] ++ [40]) ++ R = T) := Lib.hid (by rw [← hE0]; simp [fmtT, punC])
     have hxl : x.length + 70000 + 1000 ≤ 2000000000000 := by have h1 := HTL.out; have h2 := congrArg List.length HEQ1.out; simp only [List.length_append, List.length_cons, List.length_nil] at h1 h2; omega
     clear hE0
     go_wp2_with fail
     ((with_reducible refine (KV.out _).mono ?_))
     rintro e w2 ⟨rfl, hb⟩
     have HB2 := Lib.hid (bel_then HB.out (Nat.le_refl _) hb)
     have HV2 := Lib.hid (HV.out.belowB hb)
     obtain ⟨b', off', hbo, d0, d1, d2, d3⟩ := HCL.out w2 hb
     injection hbo with hbo
     injection hbo with hb1 hb2 _
     subst hb1 hb2
     simp only at d0 d1 d2 d3
     clear hb c0 c1 c2 c3 HCL
     go_wp2_with fail
     go_quiet (fail)
     have HB3 := Lib.hid (below_drewN HB2.out nq)
     have HV3 := Lib.hid (HV2.out.belowB (below_drewN (Below.refl _ _) nq))
     go_wp2_with fail
     go_roundw
     case rel => exact ⟨k + 1, x ++ ([32] ++ [40]), by simp, by go_num, by omega, Lib.hid (by rw [HR.out]; exact HEQ1.out), HV3, HB3⟩
     case measure => simp [intOf]; omega
    ·have HEQ1 : Hid (x ++ ([32] ++ [41]) ++ R = T) := Lib.hid (by rw [← hE0]; simp [fmtT, punC])
     have hxl : x.length + 70000 + 1000 ≤ 2000000000000 := by have h1 := HTL.out; have h2 := congrArg List.length HEQ1.out; simp only [List.length_append, List.length_cons, List.length_nil] at h1 h2; omega
     clear hE0
     go_wp2_with fail
     ((with_reducible refine (KV.out _).mono ?_))
     rintro e w2 ⟨rfl, hb⟩
     have HB2 := Lib.hid (bel_then HB.out (Nat.le_refl _) hb)
     have HV2 := Lib.hid (HV.out.belowB hb)
     obtain ⟨b', off', hbo, d0, d1, d2, d3⟩ := HCL.out w2 hb
     injection hbo with hbo
     injection hbo with hb1 hb2 _
     subst hb1 hb2
     simp only at d0 d1 d2 d3
     clear hb c0 c1 c2 c3 HCL
     go_wp2_with fail
     go_quiet (fail)
     have HB3 := Lib.hid (below_drewN HB2.out nq)
     have HV3 := Lib.hid (HV2.out.belowB (below_drewN (Below.refl _ _) nq))
     go_wp2_with fail
     go_roundw
     case rel => exact ⟨k + 1, x ++ ([32] ++ [41]), by simp, by go_num, by omega, Lib.hid (by rw [HR.out]; exact HEQ1.out), HV3, HB3⟩
     case measure => simp [intOf]; omega
    ·have HEQ1 : Hid (x ++ ([32] ++ [123]) ++ R = T) := Lib.hid (by rw [← hE0]; simp [fmtT, punC])
     have hxl : x.length + 70000 + 1000 ≤ 2000000000000 := by have h1 := HTL.out; have h2 := congrArg List.length HEQ1.out; simp only [List.length_append, List.length_cons, List.length_nil] at h1 h2; omega
     clear hE0
     go_wp2_with fail
     ((with_reducible refine (KV.out _).mono ?_))
     rintro e w2 ⟨rfl, hb⟩
     have HB2 := Lib.hid (bel_then HB.out (Nat.le_refl _) hb)
     have HV2 := Lib.hid (HV.out.belowB hb)
     obtain ⟨b', off', hbo, d0, d1, d2, d3⟩ := HCL.out w2 hb
     injection hbo with hbo
     injection hbo with hb1 hb2 _
     subst hb1 hb2
     simp only at d0 d1 d2 d3
     clear hb c0 c1 c2 c3 HCL
     go_wp2_with fail
     go_quiet (fail)
     have HB3 := Lib.hid (below_drewN HB2.out nq)
     have HV3 := Lib.hid (HV2.out.belowB (below_drewN (Below.refl _ _) nq))
     go_wp2_with fail
     go_roundw
     case rel => exact ⟨k + 1, x ++ ([32] ++ [123]), by simp, by go_num, by omega, Lib.hid (by rw [HR.out]; exact HEQ1.out), HV3, HB3⟩
     case measure => simp [intOf]; omega
    ·have HEQ1 : Hid (x ++ ([32] ++ [125]) ++ R = T) := Lib.hid (by rw [← hE0]; simp [fmtT, punC])
     have hxl : x.length + 70000 + 1000 ≤ 2000000000000 := by have h1 := HTL.out; have h2 := congrArg List.length HEQ1.out; simp only [List.length_append, List.length_cons, List.length_nil] at h1 h2; omega
     clear hE0
     go_wp2_with fail
     ((with_reducible refine (KV.out _).mono ?_))
     rintro e w2 ⟨rfl, hb⟩
     have HB2 := Lib.hid (bel_then HB.out (Nat.le_refl _) hb)
     have HV2 := Lib.hid (HV.out.belowB hb)
     obtain ⟨b', off', hbo, d0, d1, d2, d3⟩ := HCL.out w2 hb
     injection hbo with hbo
     injection hbo with hb1 hb2 _
     subst hb1 hb2
     simp only at d0 d1 d2 d3
     clear hb c0 c1 c2 c3 HCL
     go_wp2_with fail
     go_quiet (fail)
     have HB3 := Lib.hid (below_drewN HB2.out nq)
     have HV3 := Lib.hid (HV2.out.belowB (below_drewN (Below.refl _ _) nq))
     go_wp2_with fail
     go_roundw
     case rel => exact ⟨k + 1, x ++ ([32] ++ [125]), by simp, by go_num, by omega, Lib.hid (by rw [HR.out]; exact HEQ1.out), HV3, HB3⟩
     case measure => simp [intOf]; omega
    ·have HEQ1 : Hid (x ++ ([32] ++ [44]) ++ R = T) := Lib.hid (by rw [← hE0]; simp [fmtT, punC])
     have hxl : x.length + 70000 + 1000 ≤ 2000000000000 := by have h1 := HTL.out; have h2 := congrArg List.length HEQ1.out; simp only [List.length_append, List.length_cons, List.length_nil] at h1 h2; omega
     clear hE0
     go_wp2_with fail
     ((with_reducible refine (KV.out _).mono ?_))
     rintro e w2 ⟨rfl, hb⟩
     have HB2 := Lib.hid (bel_then HB.out (Nat.le_refl _) hb)
     have HV2 := Lib.hid (HV.out.belowB hb)
     obtain ⟨b', off', hbo, d0, d1, d2, d3⟩ := HCL.out w2 hb
     injection hbo with hbo
     injection hbo with hb1 hb2 _
     subst hb1 hb2
     simp only at d0 d1 d2 d3
     clear hb c0 c1 c2 c3 HCL
     go_wp2_with fail
     go_quiet (fail)
     have HB3 := Lib.hid (below_drewN HB2.out nq)
     have HV3 := Lib.hid (HV2.out.belowB (below_drewN (Below.refl _ _) nq))
     go_wp2_with fail
     go_roundw
     case rel => exact ⟨k + 1, x ++ ([32] ++ [44]), by simp, by go_num, by omega, Lib.hid (by rw [HR.out]; exact HEQ1.out), HV3, HB3⟩
     case measure => simp [intOf]; omega
  ·have hlt' : ¬ (k : Int) < (L : Int) := by omega
   have HFN : Hid (x = T) := Lib.hid (by
    have := HEQ.out
    rw [List.drop_eq_nil_iff.2 (by rw [HL.out]; omega), wordsP, textP_nil, List.append_nil] at this
    exact this)
   go_wp2_with fail
   go_ret
   exact ⟨by rw [← HFN.out]; rfl, HB.out⟩
end
section
open Go.RowKit
attribute [local go_sem] ByteArray.mk_append_mk bs_get bs_cut bs_end
theorem fmtR_ok (C : Nat) (v : Value) (p : List Nd) (hp : p.length ≤ 1000000) (hps : ∀ t ∈ p, t.str.length ≤ 65536) (hnum : NumsOk p) : ∀ d, ElR C v p d ∧ BlR C v p d
 | 0 => ⟨fun k i j lv s w h => (by rw [vAny] at h; cases h), fun k i j lv s w hk h => (by rw [vAny] at h; cases h)⟩
 | d + 1 => by
   obtain ⟨h1, h2⟩ := fmtR_ok C v p hp hps hnum d
   exact ⟨rnode_step C v p d hp hps hnum h1 h2, rblock_step C v p d hp h1⟩
def topT (p : List Nd) : Nat → Nat → List UInt8
 | 0, _ => []
 | f + 1, i => if p.length ≤ i then [] else textP (fmtA p 32 false 68 i 0 []).1 ++ (10 :: topT p f (fmtA p 32 false 68 i 0 []).2)
theorem topT_more (p : List Nd) : ∀ (f i : Nat), vTop p f i = true → textP (topE p f false i) ++ [10] = 10 :: topT p f i
 | 0, i, h => by rw [topE, topT]; rfl
 | f + 1, i, h => by
   rw [topE, topT]
   split
   ·rfl
   ·next hlt =>
    rw [vTop, if_neg hlt] at h
    cases hx : vAny p 32 false 68 i with
    | none => rw [hx] at h; cases h
    | some q =>
      rw [hx] at h
      simp only [] at h
      rw [fmt_next p 32 false 68 i q _ _ hx, fmt_next p 32 false 68 i q _ _ hx, textP_app, List.append_assoc, topT_more p f q h, fmt_text p _ _ hx]
      rfl
theorem fmtP_top (p : List Nd) (hv : validL p = true) : topT p p.length 0 = fmtP p := by
 unfold validL at hv
 rw [Bool.and_eq_true] at hv
 have hv := hv.2
 unfold fmtP tailL
 cases p with
 | nil => rfl
 | cons a r =>
   rw [if_neg (by simp)]
   rw [List.length_cons] at hv ⊢
   rw [topE, topT, if_neg (by simp), if_neg (by simp), if_pos rfl]
   rw [vTop, if_neg (by simp)] at hv
   cases hx : vAny (a :: r) 32 false 68 0 with
   | none => rw [hx] at hv; cases hv
   | some q =>
     rw [hx] at hv
     simp only [] at hv
     rw [fmt_next (a :: r) 32 false 68 0 q _ _ hx, textP_app, List.append_assoc, topT_more (a :: r) _ q hv]
set_option maxRecDepth 100000 in
set_option maxHeartbeats 8000000 in
theorem rformat_any (p : List Nd) (v : Value) (w : World) (hv : NSl w v p) (hps : ∀ t ∈ p, t.str.length ≤ 65536) (hnum : NumsOk p) (hval : validL p = true) :
 Calls Tryz.prog 12 #[v] w fun e w' => e = .returned (.string ⟨(fmtP p).toArray⟩) ∧ Below w.heap.size w w' := by
 have HV := Lib.hid hv
 have hpl : p.length ≤ 1000000 := by
  have h := hval
  unfold validL at h
  simp only [Bool.and_eq_true, decide_eq_true_eq] at h
  omega
 have HVA := Lib.hid (rvalid_is p (fun t ht => Nat.le_trans (hps t ht) (by decide)) true (Lib.hid hval) v w hv (by omega))
 have HVT0 : Hid (vTop p p.length 0 = true) := Lib.hid (by unfold validL at hval; rw [Bool.and_eq_true] at hval; exact hval.2)
 obtain ⟨T, hT⟩ : ∃ T, fmtP p = T := ⟨_, rfl⟩
 have HTL : Hid (T.length ≤ 1000000000) := Lib.hid (by rw [← hT]; have := fmtP_ln p hnum hps hval; omega)
 have HT0 : Hid (topT p p.length 0 = T) := Lib.hid (by rw [fmtP_top p hval, hT])
 have HFR := Lib.hid (fun C => (fmtR_ok C v p hpl hps hnum 32).1)
 unfold ElR at HFR
 rw [hT]
 obtain ⟨a, cap, rfl, hc⟩ := hv.1
 obtain ⟨L, hL⟩ : ∃ L, p.length = L := ⟨_, rfl⟩
 have HL := Lib.hid hL
 rw [hL] at HV HVA HVT0 HT0 HFR hpl ⊢
 have HLT : Hid (∀ g off n c, Value.slice a L cap = .slice (some ⟨g, off, none⟩) n c → p ≠ [] → g < w.heap.size) := Lib.hid (by
  intro g off n c e hne
  injection e with e1 _ _
  obtain ⟨b, o, hb, hk⟩ := hc hne
  rw [e1] at hb
  injection hb with hb
  injection hb with h1 h2 _
  subst h1 h2
  exact World.block_lt_of_cell? w _ (hk 0 (List.length_pos_iff.2 hne)).1)
 clear hc hv hval hT hL hps hnum
 go_enter Tryz.func12, Tryz.ntmps12
 go_wp2_with fail
 ((with_reducible refine HVA.out.mono ?_))
 rintro e w1 ⟨rfl, hb1⟩
 have hsz1 : w.heap.size ≤ w1.heap.size := hb1.size
 have hal : Below w1.heap.size w1 (w1.alloc (prO (.slice a L cap) [])) := (Below.refl _ _).alloc (Nat.le_refl _) _
 have HB1 := Lib.hid hb1
 have HB2 : Hid (Below w.heap.size w (w1.alloc (prO (.slice a L cap) []))) := Lib.hid (bel_then hb1 (Nat.le_refl _) hal)
 have HV2 := Lib.hid (HV.out.below HB2.out)
 have HP2 : Hid (PrSt (w1.alloc (prO (.slice a L cap) [])) w1.heap.size (.slice a L cap) p []) := Lib.hid ⟨heap_alloc_new _ _, HV2.out, fun g off n c e hne => Nat.lt_of_lt_of_le (HLT.out g off n c e hne) hsz1⟩
 clear hb1 hal HVA HV2
 go_upto_region 4 with fail
 obtain ⟨C, hC⟩ : ∃ C, w1.heap.size = C := ⟨_, rfl⟩
 rw [hC] at HP2 hsz1
 (try simp only [hC])
 generalize w1.alloc (prO (.slice a L cap) []) = W at HP2 HB2 ⊢
 clear hC
 have HK2 := Lib.hid (Keep.refl C W)
 have hsz2 : w.heap.size ≤ W.heap.size := HB2.out.size
 go_wp2_with fail
 go_loopw [4] (fun x wr => ∃ (f ii : Nat) (st : List UInt8), x = .int .i64 ii ∧ ii ≤ L ∧ L ≤ f + ii ∧ Hid (vTop p f ii = true) ∧ Hid (PrSt wr C (.slice a L cap) p st) ∧ Hid (st ++ topT p f ii = T) ∧ Hid (Keep C W wr)) (fun x _ => L - (intOf x).toNat)
 case atStart => exact ⟨L, 0, [], rfl, by omega, by omega, HVT0, HP2, HT0, HK2⟩
 case round =>
  clear HVT0 HP2 HT0 HK2
  obtain ⟨f, ii, st, rfl, hi, hf, HVT, HP, HEQ, HK⟩ := hrel
  obtain ⟨w3, rfl⟩ : ∃ y : World, y = wr := ⟨_, rfl⟩
  by_cases hlt : ii < L
  ·have hlt' : (ii : Int) < (L : Int) := by omega
   obtain ⟨f, rfl⟩ : ∃ g, f = g + 1 := ⟨f - 1, by omega⟩
   have h1 := HVT.out
   rw [vTop, if_neg (by rw [HL.out]; omega)] at h1
   cases hx : vAny p 32 false 68 ii with
   | none => rw [hx] at h1; cases h1
   | some q =>
     rw [hx] at h1
     have h2 := HEQ.out
     rw [topT, if_neg (by rw [HL.out]; omega), fmt_next p 32 false 68 ii q _ _ hx] at h2
     obtain ⟨E, hE⟩ : ∃ z, textP (fmtA p 32 false 68 ii 0 []).1 = z := ⟨_, rfl⟩
     rw [hE] at h2
     have HEQ1 : Hid (st ++ (E ++ (10 :: topT p f q)) = T) := Lib.hid h2
     obtain ⟨hq1, hq2⟩ := vAny_good p 32 false 68 ii q hx
     rw [HL.out] at hq2
     have HC := Lib.hid (HFR.out C 68 ii q 0 st w3 hx (by omega) (by rw [hE]; have h1 := HTL.out; have h2 := congrArg List.length HEQ1.out; simp only [List.length_append, List.length_cons] at h1 h2 ⊢; omega) HP.out)
     rw [hE, show ((0 : Nat) : Int) = (0 : Int) from rfl] at HC
     have HVT : Hid (vTop p f q = true) := Lib.hid h1
     clear h1 h2 hx HEQ
     go_wp2_with fail
     ((with_reducible refine HC.out.mono ?_))
     rintro e w5 ⟨rfl, hp5, hk5⟩
     have HP5 := Lib.hid hp5
     have HK5 := Lib.hid (HK.out.trans hk5)
     clear hp5 hk5 HC HP HK
     obtain ⟨s1, hs1⟩ : ∃ z, st ++ E = z := ⟨_, rfl⟩
     rw [hs1] at HP5
     have HS1 := Lib.hid hs1
     clear hs1
     obtain ⟨c0_b, c1_b⟩ := cells2 HP5.out.1
     have f1_b := free3 HP5.out.1 1
     have hl_b : s1.length + 1 ≤ 1000000000 := by have h1 := HTL.out; have h2 := congrArg List.length HEQ1.out; have h3 := congrArg List.length HS1.out; simp only [List.length_append, List.length_cons, List.length_nil] at h1 h2 h3 ⊢; omega
     have HP_b := Lib.hid (HP5.out.put (s1 ++ [10]))
     have HK_b := Lib.hid (HK5.out.setC 1 (.string ⟨(s1 ++ [10]).toArray⟩))
     have HEQ2 : Hid (s1 ++ [10] ++ topT p f q = T) := Lib.hid (by rw [← HEQ1.out, ← HS1.out]; simp)
     go_wp2_with fail
     go_roundw
     case rel => first | exact ⟨f, q, s1 ++ [10], rfl, by omega, by omega, HVT, HP_b, HEQ2, HK_b⟩ | exact ⟨_, f, q, s1 ++ [10], rfl, by omega, by omega, HVT, HP_b, HEQ2, HK_b⟩
     case measure => simp [intOf]; omega
  ·have hlt' : ¬ (ii : Int) < (L : Int) := by omega
   have HFN : Hid (st = T) := Lib.hid (by
    have h2 := HEQ.out
    have hz : topT p f ii = [] := by
     cases f with
     | zero => rw [topT]
     | succ f => rw [topT, if_pos (by rw [HL.out]; omega)]
    rw [hz, List.append_nil] at h2
    exact h2)
   obtain ⟨c0, c1⟩ := cells2 HP.out.1
   go_wp2_with fail
   go_ret
   exact ⟨by rw [← HFN.out]; rfl, HB2.out.trans (HK.out.below hsz2 hsz1)⟩
end
end Go.Proofs.YtnicnfchkdmieaaGreatDoor
