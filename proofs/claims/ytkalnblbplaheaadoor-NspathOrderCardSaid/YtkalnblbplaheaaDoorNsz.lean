/- NspathOrder: the walk. -/
import Derived.Test.YtkalnblbplaheaaDoorNsy
import Derived.Test.YtkalnblbplaheaaDoorNsl
namespace Go.Proofs.YtkalnblbplaheaaDoor
open Go.RowKit
set_option linter.unusedVariables false
set_option linter.unusedSimpArgs false
attribute [local go_sem] ByteArray.mk_append_mk bs_get bs_cut bs_end

theorem cmpP_symm (r1 : Bool) (u1 : Int) (l1 : List (List UInt8)) (r2 : Bool) (u2 : Int) (l2 : List (List UInt8)) : cmpP r1 u1 l1 r2 u2 l2 = -cmpP r2 u2 l2 r1 u1 l1 := cmpP_law.symm _ _
theorem cmpP_three (r1 : Bool) (u1 : Int) (l1 : List (List UInt8)) (r2 : Bool) (u2 : Int) (l2 : List (List UInt8)) : cmpP r1 u1 l1 r2 u2 l2 = -1 ∨ cmpP r1 u1 l1 r2 u2 l2 = 0 ∨ cmpP r1 u1 l1 r2 u2 l2 = 1 := cmpP_law.three _ _
theorem cmpP_same (r1 : Bool) (u1 : Int) (l1 : List (List UInt8)) (r2 : Bool) (u2 : Int) (l2 : List (List UInt8)) : sameB r1 u1 l1 r2 u2 l2 = decide (cmpP r1 u1 l1 r2 u2 l2 = 0) := by
  rw [Bool.eq_iff_iff, decide_eq_true_eq, show (cmpP r1 u1 l1 r2 u2 l2 = 0) = _ from propext (cmpP_law.eq _ _)]
  simp [sameB, and_assoc]
theorem cmpP_trans (r1 : Bool) (u1 : Int) (l1 : List (List UInt8)) (r2 : Bool) (u2 : Int) (l2 : List (List UInt8)) (r3 : Bool) (u3 : Int) (l3 : List (List UInt8)) (h1 : cmpP r1 u1 l1 r2 u2 l2 ≤ 0) (h2 : cmpP r2 u2 l2 r3 u3 l3 ≤ 0) : cmpP r1 u1 l1 r3 u3 l3 ≤ 0 := cmpP_law.trans _ _ _ h1 h2
set_option maxRecDepth 100000 in
set_option maxHeartbeats 2000000 in
theorem total_walk (p q s : Value) (r1 : Bool) (u1 : Int) (l1 : List (List UInt8)) (r2 : Bool) (u2 : Int) (l2 : List (List UInt8)) (r3 : Bool) (u3 : Int) (l3 : List (List UInt8)) (w : World) (m : Int) (hm : w.cell? ⟨0, 0, none⟩ = some (.int .i64 m)) (hp : PathV w p r1 u1 l1) (hq : PathV w q r2 u2 l2) (hs : PathV w s r3 u3 l3) :
    Calls Tryd.prog 9 #[p, q, s] w fun e w' => e = .returned (.bool true) ∧ Below w.heap.size w w' := by
  obtain ⟨v1, rfl, s1⟩ := hp
  obtain ⟨v2, rfl, s2⟩ := hq
  obtain ⟨v3, rfl, s3⟩ := hs
  have HT := Lib.hid (T3.start w (pObj r1 u1 v1) (pObj r2 u2 v2) (pObj r3 u3 v3))
  have S1 : Hid (∀ wr, Below w.heap.size w wr → StrsAt wr v1 l1) := Lib.hid (fun wr h => s1.below h)
  have S2 : Hid (∀ wr, Below w.heap.size w wr → StrsAt wr v2 l2) := Lib.hid (fun wr h => s2.below h)
  have S3 : Hid (∀ wr, Below w.heap.size w wr → StrsAt wr v3 l3) := Lib.hid (fun wr h => s3.below h)
  have HM : Hid (∀ wr, Below w.heap.size w wr → wr.cell? ⟨0, 0, none⟩ = some (.int .i64 m)) := Lib.hid (fun wr h => keep0 hm h (Nat.le_refl _))
  obtain ⟨a1, cap1, rfl, _⟩ := s1.form
  obtain ⟨a2, cap2, rfl, _⟩ := s2.form
  obtain ⟨a3, cap3, rfl, _⟩ := s3.form
  clear s1 s2 s3 hm
  obtain ⟨X, hX⟩ : ∃ X, Hid (cmpP r1 u1 l1 r2 u2 l2 = X) := ⟨_, Lib.hid rfl⟩
  obtain ⟨Z, hZ⟩ : ∃ Z, Hid (cmpP r2 u2 l2 r3 u3 l3 = Z) := ⟨_, Lib.hid rfl⟩
  obtain ⟨V, hV⟩ : ∃ V, Hid (cmpP r1 u1 l1 r3 u3 l3 = V) := ⟨_, Lib.hid rfl⟩
  obtain ⟨SB, hSB⟩ : ∃ SB, Hid (sameB r1 u1 l1 r2 u2 l2 = SB) := ⟨_, Lib.hid rfl⟩
  have HY : Hid (cmpP r2 u2 l2 r1 u1 l1 = -X) := Lib.hid (by rw [cmpP_symm, hX.out])
  have HS : Hid (SB = decide (X = 0)) := Lib.hid (by rw [← hSB.out, cmpP_same, hX.out])
  have HX3 : X = -1 ∨ X = 0 ∨ X = 1 := by rw [← hX.out]; exact cmpP_three _ _ _ _ _ _
  have HTR : Hid (X ≤ 0 → Z ≤ 0 → V ≤ 0) := Lib.hid (by rw [← hX.out, ← hZ.out, ← hV.out]; exact cmpP_trans _ _ _ _ _ _ _ _ _)
  have hz3 : Z = -1 ∨ Z = 0 ∨ Z = 1 := by rw [← hZ.out]; exact cmpP_three _ _ _ _ _ _
  have hv3 : V = -1 ∨ V = 0 ∨ V = 1 := by rw [← hV.out]; exact cmpP_three _ _ _ _ _ _
  have HZ3 := Lib.hid hz3
  have HV3 := Lib.hid hv3
  clear hz3 hv3
  obtain ⟨c0, c1, c2⟩ := cells3 HT.out.1.1
  obtain ⟨d0, d1, d2⟩ := cells3 HT.out.1.2.1
  obtain ⟨e0, e1, e2⟩ := cells3 HT.out.1.2.2
  by_cases h1 : (100 : Int) < (l1.length : Int)
  · go_enter Tryd.func9, Tryd.ntmps9
    go_wp2_with fail
    ((with_reducible refine (awake_any m _ (HM.out _ HT.out.bel)).mono ?_))
    rintro e w2 ⟨rfl, hb⟩
    have HT2 := Lib.hid (HT.out.below hb)
    clear hb
    go_wp2_with fail
    go_ret
    exact ⟨rfl, HT2.out.bel⟩
  by_cases h2 : (100 : Int) < (l2.length : Int)
  · go_enter Tryd.func9, Tryd.ntmps9
    go_wp2_with fail
    ((with_reducible refine (awake_any m _ (HM.out _ HT.out.bel)).mono ?_))
    rintro e w2 ⟨rfl, hb⟩
    have HT2 := Lib.hid (HT.out.below hb)
    clear hb
    go_wp2_with fail
    go_ret
    exact ⟨rfl, HT2.out.bel⟩
  by_cases h3 : (100 : Int) < (l3.length : Int)
  · go_enter Tryd.func9, Tryd.ntmps9
    go_wp2_with fail
    ((with_reducible refine (awake_any m _ (HM.out _ HT.out.bel)).mono ?_))
    rintro e w2 ⟨rfl, hb⟩
    have HT2 := Lib.hid (HT.out.below hb)
    clear hb
    go_wp2_with fail
    go_ret
    exact ⟨rfl, HT2.out.bel⟩
  go_enter Tryd.func9, Tryd.ntmps9
  go_upto_region 3 with fail
  clear c0 c1 c2 d0 d1 d2 e0 e1 e2
  generalize ((w.alloc (pObj r1 u1 (.slice a1 l1.length cap1))).alloc (pObj r2 u2 (.slice a2 l2.length cap2))).alloc (pObj r3 u3 (.slice a3 l3.length cap3)) = w1 at *
  obtain ⟨k0, k1, k2⟩ := grow3 HT.out.1.1
  obtain ⟨m0, m1, m2⟩ := grow3 HT.out.1.2.1
  refine wp_region_plan (Grows w1) 6 [.reads [0, 1, 3, 4], .act 2, .act 5, .act 6, .act 7] (by kernel_rfl) (by kernel_rfl) (by kernel_rfl) (by kernel_rfl) (by kernel_rfl) (fun _ _ d _ _ h => by cases d <;> exact h) (Grows.self _) ?_
  have HG : Hid (Grows w1 w1.drew) := Lib.hid (Grows.self w1)
  refine wpPlan_reads ?_
  simp only [pickOps, List.drop_succ_cons, List.drop_zero, List.take_succ_cons, List.take_zero, List.cons_append, List.nil_append]
  repeat (go_big_quiet_step (first | (intro hb; rw [k0 _ hb]; simp only [Result.andThen]; rw [k1 _ hb]; simp only; rw [k2 _ hb]; exact ⟨rfl, rfl⟩) | (intro hb; rw [m0 _ hb]; simp only [Result.andThen]; rw [m1 _ hb]; simp only; rw [m2 _ hb]; exact ⟨rfl, rfl⟩)))
  refine wpQuiet_nil ?_
  clear k0 k1 k2 m0 m1 m2
  refine wpPlan_act rfl ?_
  simp only [pickOps, List.drop_succ_cons, List.drop_zero, List.take_succ_cons, List.take_zero, List.cons_append, List.nil_append]
  go_wp2_with fail
  ((with_reducible refine (compare_any _ _ r1 r2 u1 u2 l1 l2 _ (PathV.mk (S1.out _ (HT.out.below (growB HG.out)).bel)) (PathV.mk (S2.out _ (HT.out.below (growB HG.out)).bel))).mono ?_))
  rintro e wx ⟨rfl, hb⟩
  rw [hX.out]
  have HG2 := Lib.hid (HG.out.trans hb)
  clear hb HG
  go_wp2_with fail
  refine ⟨fun _ => HG2.out, ?_⟩
  refine wpPlan_act rfl ?_
  simp only [pickOps, List.drop_succ_cons, List.drop_zero, List.take_succ_cons, List.take_zero, List.cons_append, List.nil_append]
  go_wp2_with fail
  ((with_reducible refine (compare_any _ _ r2 r1 u2 u1 l2 l1 _ (PathV.mk (S2.out _ (HT.out.below (growB HG2.out)).bel)) (PathV.mk (S1.out _ (HT.out.below (growB HG2.out)).bel))).mono ?_))
  rintro e wy ⟨rfl, hb⟩
  rw [HY.out]
  have HG3 := Lib.hid (HG2.out.trans hb)
  clear hb HG2
  go_wp2_with fail
  refine ⟨fun _ => HG3.out, ?_⟩
  refine wpPlan_act rfl ?_
  simp only [pickOps, List.drop_succ_cons, List.drop_zero, List.take_succ_cons, List.take_zero, List.cons_append, List.nil_append]
  go_wp2_with fail
  refine ⟨fun h => absurd h (by decide), ?_⟩
  refine wpPlan_act rfl ?_
  simp only [pickOps, List.drop_succ_cons, List.drop_zero, List.take_succ_cons, List.take_zero, List.cons_append, List.nil_append]
  go_wp2_with fail
  refine ⟨fun h => absurd h (by decide), wpPlan_nil ?_⟩
  have HT3 := Lib.hid (HT.out.below (growB HG3.out))
  clear HT HG3
  go_upto_region 4 with fail
  go_wp2_with fail
  ((with_reducible refine (awake_any m _ (HM.out _ HT3.out.bel)).mono ?_))
  rintro e w4 ⟨rfl, hb⟩
  have HT4 := Lib.hid (HT3.out.below hb)
  clear hb HT3
  obtain ⟨c0, c1, c2⟩ := cells3 HT4.out.1.1
  obtain ⟨d0, d1, d2⟩ := cells3 HT4.out.1.2.1
  have HCN := Lib.hid (rcompare_any _ _ r1 r2 u1 u2 l1 l2 _ (PathV.mk (S1.out _ HT4.out.bel)) (PathV.mk (S2.out _ HT4.out.bel)))
  rw [hX.out] at HCN
  go_wp2_with fail
  ((with_reducible refine HCN.out.mono ?_))
  rintro e w5 ⟨rfl, hb⟩
  have HT5 := Lib.hid (HT4.out.below hb)
  clear hb HT4 HCN c0 c1 c2 d0 d1 d2
  obtain ⟨c0, c1, c2⟩ := cells3 HT5.out.1.1
  obtain ⟨d0, d1, d2⟩ := cells3 HT5.out.1.2.1
  have HSM := Lib.hid (same_any _ _ r1 r2 u1 u2 l1 l2 _ (PathV.mk (S1.out _ HT5.out.bel)) (PathV.mk (S2.out _ HT5.out.bel)))
  rw [hSB.out, HS.out] at HSM
  rcases HX3 with rfl | rfl | rfl
  all_goals
    go_wp2_with fail
    ((with_reducible refine HSM.out.mono ?_))
    rintro e w6 ⟨rfl, hb⟩
    have HT6 := Lib.hid (HT5.out.below hb)
    clear hb HT5 HSM c0 c1 c2 d0 d1 d2
    obtain ⟨c0, c1, c2⟩ := cells3 HT6.out.1.1
    obtain ⟨d0, d1, d2⟩ := cells3 HT6.out.1.2.1
    obtain ⟨e0, e1, e2⟩ := cells3 HT6.out.1.2.2
    go_wp2_with fail
  iterate 2
    rotate_left
  · go_ret
    exact ⟨rfl, HT6.out.bel⟩
  all_goals
    have HCN := Lib.hid (compare_any _ _ r2 r3 u2 u3 l2 l3 _ (PathV.mk (S2.out _ HT6.out.bel)) (PathV.mk (S3.out _ HT6.out.bel)))
    rw [hZ.out] at HCN
    ((with_reducible refine HCN.out.mono ?_))
    rintro e w7 ⟨rfl, hb⟩
    have HT7 := Lib.hid (HT6.out.below hb)
    clear hb HT6 HCN c0 c1 c2 d0 d1 d2 e0 e1 e2
    obtain ⟨c0, c1, c2⟩ := cells3 HT7.out.1.1
    obtain ⟨e0, e1, e2⟩ := cells3 HT7.out.1.2.2
    by_cases hz : 0 < Z
    · go_wp2_with fail
      go_ret
      exact ⟨rfl, HT7.out.bel⟩
    · have hv : V ≤ 0 := HTR.out (by omega) (by omega)
      have HCN := Lib.hid (compare_any _ _ r1 r3 u1 u3 l1 l3 _ (PathV.mk (S1.out _ HT7.out.bel)) (PathV.mk (S3.out _ HT7.out.bel)))
      rw [hV.out] at HCN
      go_wp2_with fail
      ((with_reducible refine HCN.out.mono ?_))
      rintro e w8 ⟨rfl, hb⟩
      have HT8 := Lib.hid (HT7.out.below hb)
      clear hb HT7 HCN c0 c1 c2 e0 e1 e2
      go_wp2_with fail
      go_ret
      exact ⟨rfl, HT8.out.bel⟩
end Go.Proofs.YtkalnblbplaheaaDoor
