/- sameTokens: the walk. -/
import Derived.Test.YtebmkalgdbkijaaDoorTld
import Derived.Test.YtebmkalgdbkijaaDoorPlan
namespace Go.Proofs.YtebmkalgdbkijaaDoor
open Go.RowKit
set_option linter.unusedVariables false
set_option linter.unusedSimpArgs false
attribute [local go_sem] ByteArray.mk_append_mk bs_get bs_cut bs_end

set_option maxRecDepth 100000 in
set_option maxHeartbeats 4000000 in
theorem same_yes (v1 v2 : Value) (l1 l2 : List TokI) (w : World) (h1 : TSl w v1 l1) (h2 : TSl w v2 l2) (hl : l1.length ≤ 9223372036854770000) (he : l1.map bareT = l2.map bareT) :
    Calls Tryd.prog 9 #[v1, v2] w fun e w' => e = .returned (.bool true) ∧ Below w.heap.size w w' := by
  have H1 := Lib.hid h1
  have H2 := Lib.hid h2
  have HE := Lib.hid he
  have hll : l2.length = l1.length := by have := congrArg List.length he; simp only [List.length_map] at this; omega
  obtain ⟨a1, c1, rfl, _⟩ := h1
  obtain ⟨a2, c2, rfl, _⟩ := h2
  rw [hll] at H2 ⊢
  have HLL := Lib.hid hll
  clear hll he
  go_enter Tryd.func9, Tryd.ntmps9
  go_wp2_with fail
  go_loopw [5] (fun i wr => ∃ k : Nat, i = .int .i64 k ∧ k ≤ l1.length ∧ Hid (Below w.heap.size w wr)) (fun i _ => l1.length - (intOf i).toNat)
  case atStart => exact ⟨0, rfl, by omega, Lib.hid (Below.refl _ _)⟩
  case round =>
    obtain ⟨k, rfl, hk, HB⟩ := hrel
    obtain ⟨w1, rfl⟩ : ∃ y : World, y = wr := ⟨_, rfl⟩
    by_cases hlt : k < l1.length
    · obtain ⟨a', cap', hv', hc⟩ := H1.out.below HB.out
      injection hv' with e1 em e2
      clear em
      subst e1 e2
      obtain ⟨b1, o1, rfl, hcell1⟩ := hc (by rintro rfl; simp at hlt)
      obtain ⟨a', cap', hv', hc'⟩ := H2.out.below HB.out
      injection hv' with e1 em e2
      clear em
      subst e1 e2
      have hlt2 : k < l2.length := by have := HLL.out; omega
      obtain ⟨b2, o2, rfl, hcell2⟩ := hc' (by rintro rfl; simp at hlt2)
      have t1 := Lib.hid (hcell1 k hlt)
      have t2 := Lib.hid (hcell2 k hlt2)
      have he : bareT l1[k] = bareT l2[k] := by
        have := congrArg (fun l => l[k]?) HE.out
        simpa [hlt, hlt2] using this
      clear hcell1 hcell2 hc hc'
      obtain ⟨A1, hA1⟩ : ∃ A, l1[k] = A := ⟨_, rfl⟩
      obtain ⟨A2, hA2⟩ : ∃ A, l2[k] = A := ⟨_, rfl⟩
      rw [hA1] at t1 he
      rw [hA2] at t2 he
      clear hA1 hA2
      obtain ⟨k1, n1, s1, p1⟩ := A1
      obtain ⟨k2, n2, s2, p2⟩ := A2
      have K1 := Lib.hid (bare_any k1 n1 p1 s1)
      have K2 := Lib.hid (bare_any k2 n2 p2 s2)
      rw [he] at K1
      obtain ⟨Y, hY⟩ : ∃ Y, bareT ⟨k2, n2, s2, p2⟩ = Y := ⟨_, rfl⟩
      rw [hY] at K1 K2
      obtain ⟨yk, yn, ys, yp⟩ := Y
      have hN := tok_same yk yn yp ys
      unfold TokI.val at K1 K2
      simp only [tokV] at K1 K2
      clear he hY
      go_upto_region 6 with fail
      have T1 : ∀ x, Grows w1 x → TAt x b1 (o1 + k * 4) ⟨k1, n1, s1, p1⟩ := fun x h => t1.out.below h
      have T2 : ∀ x, Grows w1 x → TAt x b2 (o2 + k * 4) ⟨k2, n2, s2, p2⟩ := fun x h => t2.out.below h
      refine wp_region_plan (Grows _) 11 [.reads [0, 1, 2, 3, 5, 6, 7, 8], .act 4, .act 9, .act 10] (by kernel_rfl) (by kernel_rfl) (by kernel_rfl) (by kernel_rfl) (by kernel_rfl) (fun _ _ d _ _ h => by cases d <;> exact h) (Grows.self _) ?_
      refine wpPlan_reads ?_
      simp only [pickOps, List.drop_succ_cons, List.drop_zero, List.take_succ_cons, List.take_zero, List.cons_append, List.nil_append]
      repeat (go_big_quiet_step (first | (intro hb; obtain ⟨d0, d1, d2, d3⟩ := T1 _ hb; simp only [d0, d1, d2, d3, Result.andThen]; exact ⟨trivial, rfl⟩) | (intro hb; obtain ⟨d0, d1, d2, d3⟩ := T2 _ hb; simp only [d0, d1, d2, d3, Result.andThen]; exact ⟨trivial, rfl⟩)))
      refine wpQuiet_nil ?_
      clear T1 T2
      refine wpPlan_act rfl ?_
      simp only [pickOps, List.drop_succ_cons, List.drop_zero, List.take_succ_cons, List.take_zero, List.cons_append, List.nil_append]
      go_wp2_with fail
      ((with_reducible refine (K1.out _).mono ?_))
      rintro e w2 ⟨rfl, hb⟩
      have HG := Lib.hid ((Grows.self w1).trans hb)
      clear hb K1
      go_wp2_with fail
      refine ⟨fun _ => HG.out, ?_⟩
      refine wpPlan_act rfl ?_
      simp only [pickOps, List.drop_succ_cons, List.drop_zero, List.take_succ_cons, List.take_zero, List.cons_append, List.nil_append]
      go_wp2_with fail
      ((with_reducible refine (K2.out _).mono ?_))
      rintro e w3 ⟨rfl, hb⟩
      have HG3 := Lib.hid (HG.out.trans hb)
      clear hb K2 HG
      go_wp2_with fail
      refine ⟨fun _ => HG3.out, ?_⟩
      refine wpPlan_act rfl ?_
      simp only [pickOps, List.drop_succ_cons, List.drop_zero, List.take_succ_cons, List.take_zero, List.cons_append, List.nil_append]
      go_wp2_with fail
      refine ⟨fun _ => HG3.out, ?_⟩
      refine wpPlan_nil ?_
      go_wp2_with fail
      go_roundw
      case rel => exact ⟨k + 1, by go_num, by omega, Lib.hid (HB.out.trans (HG3.out.mono HB.out.size))⟩
      case measure => simp [intOf]; omega
    · go_wp2_with fail
      go_ret
      exact ⟨rfl, HB.out⟩
end Go.Proofs.YtebmkalgdbkijaaDoor
