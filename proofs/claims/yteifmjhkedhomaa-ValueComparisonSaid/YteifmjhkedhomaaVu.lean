/- ValueComparison: the walk. -/
import Derived.Test.YteifmjhkedhomaaVt
namespace Go.Proofs.Yteifmjhkedhomaa
open Go.RowKit
set_option linter.unusedVariables false
attribute [local go_sem] ByteArray.mk_append_mk bs_get bs_cut bs_end conv1 conv2

theorem Bx.put0 {w wr : World} {c0 c1 c2 c3 d0 d1 d2 d3 : Value} {t : Nat} (h : Bx w wr (.cells #[c0, c1, c2, c3] t (0, 0)) (.cells #[d0, d1, d2, d3] t (0, 0))) (a b : Value) :
    Bx w ((wr.setCell ⟨w.heap.size, 0, none⟩ a).setCell ⟨w.heap.size + 1, 0, none⟩ b) (.cells #[a, c1, c2, c3] t (0, 0)) (.cells #[b, d1, d2, d3] t (0, 0)) := by
  have e1 := heap_setCell_same wr _ 0 _ _ a h.1.1
  have e2 := blk_other h.1.2 ⟨w.heap.size, 0, none⟩ a (by simp)
  have e3 := heap_setCell_same _ _ 0 _ _ b e2
  exact ⟨⟨(blk_other e1 _ _ (by simp)).trans rfl, e3.trans rfl⟩, (h.2.setCell (Nat.le_refl _) _).setCell (by simp) _⟩
set_option maxRecDepth 100000 in
set_option maxHeartbeats 4000000 in
theorem law_cmp (k1 n1 o1 k2 n2 o2 kd : Int) (s1 s2 : List UInt8) (w : World) (F1 : Fits n1 s1) (F2 : Fits n2 s2) (hk0 : 0 ≤ kd) (hk1 : kd ≤ 255) :
    Calls Try.prog 4 #[valV k1 n1 s1 o1, valV k2 n2 s2 o2, .int .u8 kd] w fun e w' => e = .returned (.bool true) ∧ Below w.heap.size w w' := by
  have HX3 := Lib.hid (Bx.start w (vObj k1 n1 s1 o1) (vObj k2 n2 s2 o2))
  obtain ⟨f1, f2, f3⟩ := F1
  obtain ⟨g1, g2, g3⟩ := F2
  go_enter Try.func4, Try.ntmps4
  go_upto_region 1 with fail
  have k0 : ∀ x, Grows _ x → _ := fun x (h : Grows ((w.alloc (vObj k1 n1 s1 o1)).alloc (vObj k2 n2 s2 o2)) x) => (cells4 (HX3.out.below h).1.1).1
  have kk1 : ∀ x, Grows _ x → _ := fun x (h : Grows ((w.alloc (vObj k1 n1 s1 o1)).alloc (vObj k2 n2 s2 o2)) x) => (cells4 (HX3.out.below h).1.1).2.1
  have kk2 : ∀ x, Grows _ x → _ := fun x (h : Grows ((w.alloc (vObj k1 n1 s1 o1)).alloc (vObj k2 n2 s2 o2)) x) => (cells4 (HX3.out.below h).1.1).2.2.1
  have k3 : ∀ x, Grows _ x → _ := fun x (h : Grows ((w.alloc (vObj k1 n1 s1 o1)).alloc (vObj k2 n2 s2 o2)) x) => (cells4 (HX3.out.below h).1.1).2.2.2
  have l0 : ∀ x, Grows _ x → _ := fun x (h : Grows ((w.alloc (vObj k1 n1 s1 o1)).alloc (vObj k2 n2 s2 o2)) x) => (cells4 (HX3.out.below h).1.2).1
  have l1 : ∀ x, Grows _ x → _ := fun x (h : Grows ((w.alloc (vObj k1 n1 s1 o1)).alloc (vObj k2 n2 s2 o2)) x) => (cells4 (HX3.out.below h).1.2).2.1
  have l2 : ∀ x, Grows _ x → _ := fun x (h : Grows ((w.alloc (vObj k1 n1 s1 o1)).alloc (vObj k2 n2 s2 o2)) x) => (cells4 (HX3.out.below h).1.2).2.2.1
  have l3 : ∀ x, Grows _ x → _ := fun x (h : Grows ((w.alloc (vObj k1 n1 s1 o1)).alloc (vObj k2 n2 s2 o2)) x) => (cells4 (HX3.out.below h).1.2).2.2.2
  refine wp_region_plan (Grows _) 4 [.reads [0, 2], .act 1, .act 3, .act 4, .act 5] (by kernel_rfl) (by kernel_rfl) (by kernel_rfl) (by kernel_rfl) (by kernel_rfl) (fun _ _ d _ _ h => by cases d <;> exact h) (Grows.self _) ?_
  refine wpPlan_reads ?_
  simp only [pickOps, List.drop_succ_cons, List.drop_zero, List.take_succ_cons, List.take_zero, List.cons_append, List.nil_append]
  repeat (go_big_quiet_step (first | (intro hb; rw [k0 _ hb]; simp only [Result.andThen]; rw [kk1 _ hb]; simp only; rw [kk2 _ hb]; simp only; rw [k3 _ hb]; exact ⟨rfl, rfl⟩) | (intro hb; rw [l0 _ hb]; simp only [Result.andThen]; rw [l1 _ hb]; simp only; rw [l2 _ hb]; simp only; rw [l3 _ hb]; exact ⟨rfl, rfl⟩)))
  refine wpQuiet_nil ?_
  clear k0 kk1 kk2 k3 l0 l1 l2 l3
  refine wpPlan_act rfl ?_
  simp only [pickOps, List.drop_succ_cons, List.drop_zero, List.take_succ_cons, List.take_zero, List.cons_append, List.nil_append]
  go_wp2_with fail
  ((with_reducible refine (some_any k1 n1 o1 s1 _ f3 f1 f2).mono ?_))
  rintro e w5 ⟨ka, na, sa, oa, rfl, fa1, fa2, fa3, hb⟩
  have HX5 := Lib.hid (HX3.out.drew.below hb)
  have HG5 := Lib.hid ((Grows.self _).trans hb)
  clear hb HX3
  go_wp2_with fail
  refine ⟨fun _ => HG5.out, ?_⟩
  refine wpPlan_act rfl ?_
  simp only [pickOps, List.drop_succ_cons, List.drop_zero, List.take_succ_cons, List.take_zero, List.cons_append, List.nil_append]
  go_wp2_with fail
  ((with_reducible refine (some_any k2 n2 o2 s2 _ g3 g1 g2).mono ?_))
  rintro e w6 ⟨kb, nb, sb, ob, rfl, fb1, fb2, fb3, hb⟩
  have HX6 := Lib.hid (HX5.out.below hb)
  have HG6 := Lib.hid (HG5.out.trans hb)
  clear hb HX5 HG5
  obtain ⟨a0, a1, a2, a3⟩ := cells4 HX6.out.1.1
  obtain ⟨b0, b1, b2, b3⟩ := cells4 HX6.out.1.2
  have fr0 := free3 HX6.out.1.1 0
  have fr1 := free3 HX6.out.1.1 1
  have fr2 := free3 HX6.out.1.1 2
  have fr3 := free3 HX6.out.1.1 3
  have fs0 := free3 HX6.out.1.2 0
  have fs1 := free3 HX6.out.1.2 1
  have fs2 := free3 HX6.out.1.2 2
  have fs3 := free3 HX6.out.1.2 3
  go_wp2_with fail
  refine ⟨fun _ => HG6.out, ?_⟩
  refine wpPlan_act rfl ?_
  simp only [pickOps, List.drop_succ_cons, List.drop_zero, List.take_succ_cons, List.take_zero, List.cons_append, List.nil_append]
  go_wp2_with fail
  refine ⟨fun h => absurd h (by decide), ?_⟩
  refine wpPlan_act rfl ?_
  simp only [pickOps, List.drop_succ_cons, List.drop_zero, List.take_succ_cons, List.take_zero, List.cons_append, List.nil_append]
  go_wp2_with fail
  refine ⟨fun h => absurd h (by decide), wpPlan_nil ?_⟩
  have HX7 := Lib.hid (HX6.out.put (.int .i64 ka) (.int .u64 na) (.string ⟨sa.toArray⟩) (.int .i64 oa) (.int .i64 kb) (.int .u64 nb) (.string ⟨sb.toArray⟩) (.int .i64 ob))
  clear a0 a1 a2 a3 b0 b1 b2 b3 fr0 fr1 fr2 fr3 fs0 fs1 fs2 fs3 HX6 HG6
  generalize ((((((((w6.setCell ⟨w.heap.size, 0, none⟩ (.int .i64 ka)).setCell ⟨w.heap.size, 1, none⟩ (.int .u64 na)).setCell ⟨w.heap.size, 2, none⟩ (.string ⟨sa.toArray⟩)).setCell ⟨w.heap.size, 3, none⟩ (.int .i64 oa)).setCell ⟨w.heap.size + 1, 0, none⟩ (.int .i64 kb)).setCell ⟨w.heap.size + 1, 1, none⟩ (.int .u64 nb)).setCell ⟨w.heap.size + 1, 2, none⟩ (.string ⟨sb.toArray⟩)).setCell ⟨w.heap.size + 1, 3, none⟩ (.int .i64 ob)) = w7 at *
  obtain ⟨a0, a1, a2, a3⟩ := cells4 HX7.out.1.1
  obtain ⟨b0, b1, b2, b3⟩ := cells4 HX7.out.1.2
  have fr0 := free3 HX7.out.1.1 0
  have fs0 := free3 HX7.out.1.2 0
  go_upto_region 4 with fail
  have HX8 := Lib.hid (HX7.out.put0 (.int .i64 (1 + kd % 3)) (.int .i64 (1 + kd % 3)))
  clear a0 a1 a2 a3 b0 b1 b2 b3 fr0 fs0 HX7
  have HK : Hid (1 + kd % 3 = 1 ∨ 1 + kd % 3 = 2 ∨ 1 + kd % 3 = 3) := Lib.hid (by omega)
  generalize ((w7.setCell ⟨w.heap.size, 0, none⟩ (.int .i64 (1 + kd % 3))).setCell ⟨w.heap.size + 1, 0, none⟩ (.int .i64 (1 + kd % 3))) = w8 at *
  generalize 1 + kd % 3 = K at *
  clear hk0 hk1
  obtain ⟨a0, a1, a2, a3⟩ := cells4 HX8.out.1.1
  obtain ⟨b0, b1, b2, b3⟩ := cells4 HX8.out.1.2
  cases hv1 : validV K sa
  · have HV1 := Lib.hid hv1
    clear hv1
    go_wp2_with fail
    ((with_reducible refine (rvalid_is K na oa sa false HV1 _ (by omega)).mono ?_))
    rintro e w9 ⟨rfl, hb⟩
    have HB := Lib.hid (HX8.out.below hb).2
    clear hb a0 a1 a2 a3 b0 b1 b2 b3
    go_wp2_with fail
    ((with_reducible refine (awake_any _).mono ?_))
    rintro e w10 ⟨rfl, hb⟩
    have HB2 := Lib.hid (bel_then HB.out (Nat.le_refl _) hb)
    clear hb
    go_wp2_with fail
    go_ret
    exact ⟨rfl, HB2.out⟩
  have HV1 := Lib.hid hv1
  clear hv1
  go_wp2_with fail
  ((with_reducible refine (rvalid_is K na oa sa true HV1 _ (by omega)).mono ?_))
  rintro e w9 ⟨rfl, hb⟩
  have HX9 := Lib.hid (HX8.out.below hb)
  clear hb a0 a1 a2 a3 b0 b1 b2 b3 HX8
  obtain ⟨a0, a1, a2, a3⟩ := cells4 HX9.out.1.1
  obtain ⟨b0, b1, b2, b3⟩ := cells4 HX9.out.1.2
  cases hv2 : validV K sb
  · have HV2 := Lib.hid hv2
    clear hv2
    go_wp2_with fail
    ((with_reducible refine (rvalid_is K nb ob sb false HV2 _ (by omega)).mono ?_))
    rintro e w10 ⟨rfl, hb⟩
    have HB := Lib.hid (HX9.out.below hb).2
    clear hb a0 a1 a2 a3 b0 b1 b2 b3
    go_wp2_with fail
    ((with_reducible refine (awake_any _).mono ?_))
    rintro e w11 ⟨rfl, hb⟩
    have HB2 := Lib.hid (bel_then HB.out (Nat.le_refl _) hb)
    clear hb
    go_wp2_with fail
    go_ret
    exact ⟨rfl, HB2.out⟩
  have HV2 := Lib.hid hv2
  clear hv2
  have HR1 := Lib.hid (bin_cmp 72 K na sa nb sb HK.out HV1.out HV2.out (by omega) (by omega))
  have HR2 := Lib.hid (bin_cmp 73 K na sa nb sb HK.out HV1.out HV2.out (by omega) (by omega))
  have HR3 := Lib.hid (bin_cmp 74 K na sa nb sb HK.out HV1.out HV2.out (by omega) (by omega))
  have HR4 := Lib.hid (bin_cmp 73 K nb sb na sa HK.out HV2.out HV1.out (by omega) (by omega))
  rw [lessK_back] at HR4
  have hne := @lessK_not K na sa nb sb
  obtain ⟨L, hL⟩ : ∃ L, lessK K na sa nb sb = L := ⟨_, rfl⟩
  obtain ⟨E, hE⟩ : ∃ E, eqK K na sa nb sb = E := ⟨_, rfl⟩
  rw [hL, hE] at HR1 HR2 HR3 HR4 hne
  clear hL hE
  have hcases : (E = true ∧ L = false) ∨ (E = false ∧ L = true) ∨ (E = false ∧ L = false) := by cases E <;> cases L <;> simp at hne ⊢
  clear hne
  rcases hcases with ⟨rfl, rfl⟩ | ⟨rfl, rfl⟩ | ⟨rfl, rfl⟩
  · replace HR1 : Hid (binV 72 K na sa K nb sb = (valV 1 18446744073709551615 [] 0, 0)) := HR1
    replace HR2 : Hid (binV 73 K na sa K nb sb = (valV 1 0 [] 0, 0)) := HR2
    replace HR3 : Hid (binV 74 K na sa K nb sb = (valV 1 0 [] 0, 0)) := HR3
    replace HR4 : Hid (binV 73 K nb sb K na sa = (valV 1 0 [] 0, 0)) := HR4
    go_wp2_with fail
    ((with_reducible refine (rvalid_is K nb ob sb true HV2 _ (by omega)).mono ?_))
    rintro e w10 ⟨rfl, hb⟩
    have HX10 := Lib.hid (HX9.out.below hb)
    clear hb a0 a1 a2 a3 b0 b1 b2 b3 HX9
    obtain ⟨a0, a1, a2, a3⟩ := cells4 HX10.out.1.1
    obtain ⟨b0, b1, b2, b3⟩ := cells4 HX10.out.1.2
    go_wp2_with fail
    ((with_reducible refine (bin_is 72 K na oa K nb ob sa sb _ _ HR1 _ (by omega) (by omega) fa1 fb1 fa2 fb2).mono ?_))
    rintro e w11 ⟨rfl, hb⟩
    have HX11 := Lib.hid (HX10.out.below hb)
    clear hb a0 a1 a2 a3 b0 b1 b2 b3 HX10
    have q0 := fun o => (cells4 (HX11.out.alloc o).1.1).1
    have q1 := fun o => (cells4 (HX11.out.alloc o).1.1).2.1
    have q2 := fun o => (cells4 (HX11.out.alloc o).1.1).2.2.1
    have q3 := fun o => (cells4 (HX11.out.alloc o).1.1).2.2.2
    have r0 := fun o => (cells4 (HX11.out.alloc o).1.2).1
    have r1 := fun o => (cells4 (HX11.out.alloc o).1.2).2.1
    have r2 := fun o => (cells4 (HX11.out.alloc o).1.2).2.2.1
    have r3 := fun o => (cells4 (HX11.out.alloc o).1.2).2.2.2
    go_wp2_with fail
    ((with_reducible refine (bin_is 73 K na oa K nb ob sa sb _ _ HR2 _ (by omega) (by omega) fa1 fb1 fa2 fb2).mono ?_))
    rintro e w12 ⟨rfl, hb⟩
    have HX12 := Lib.hid ((HX11.out.alloc _).below hb)
    have HE12 := Lib.hid (bel_alloc hb).2
    clear hb q0 q1 q2 q3 r0 r1 r2 r3 HX11
    have q0 := fun o => (cells4 (HX12.out.alloc o).1.1).1
    have q1 := fun o => (cells4 (HX12.out.alloc o).1.1).2.1
    have q2 := fun o => (cells4 (HX12.out.alloc o).1.1).2.2.1
    have q3 := fun o => (cells4 (HX12.out.alloc o).1.1).2.2.2
    have r0 := fun o => (cells4 (HX12.out.alloc o).1.2).1
    have r1 := fun o => (cells4 (HX12.out.alloc o).1.2).2.1
    have r2 := fun o => (cells4 (HX12.out.alloc o).1.2).2.2.1
    have r3 := fun o => (cells4 (HX12.out.alloc o).1.2).2.2.2
    go_wp2_with fail
    ((with_reducible refine (bin_is 74 K na oa K nb ob sa sb _ _ HR3 _ (by omega) (by omega) fa1 fb1 fa2 fb2).mono ?_))
    rintro e w13 ⟨rfl, hb⟩
    have HX13 := Lib.hid ((HX12.out.alloc _).below hb)
    have HE13 := Lib.hid (blk_below (blk_alloc HE12.out _) hb)
    have HL13 := Lib.hid (bel_alloc hb).2
    clear hb q0 q1 q2 q3 r0 r1 r2 r3 HX12 HE12
    have q0 := fun o => (cells4 (HX13.out.alloc o).1.1).1
    have q1 := fun o => (cells4 (HX13.out.alloc o).1.1).2.1
    have q2 := fun o => (cells4 (HX13.out.alloc o).1.1).2.2.1
    have q3 := fun o => (cells4 (HX13.out.alloc o).1.1).2.2.2
    have r0 := fun o => (cells4 (HX13.out.alloc o).1.2).1
    have r1 := fun o => (cells4 (HX13.out.alloc o).1.2).2.1
    have r2 := fun o => (cells4 (HX13.out.alloc o).1.2).2.2.1
    have r3 := fun o => (cells4 (HX13.out.alloc o).1.2).2.2.2
    go_wp2_with fail
    ((with_reducible refine (bin_is 73 K nb ob K na oa sb sa _ _ HR4 _ (by omega) (by omega) fb1 fa1 fb2 fa2).mono ?_))
    rintro e w14 ⟨rfl, hb⟩
    have HX14 := Lib.hid ((HX13.out.alloc _).below hb)
    have HE14 := Lib.hid (blk_below (blk_alloc HE13.out _) hb)
    have HL14 := Lib.hid (blk_below (blk_alloc HL13.out _) hb)
    have HG14 := Lib.hid (bel_alloc hb).2
    clear hb q0 q1 q2 q3 r0 r1 r2 r3 HX13 HE13 HL13
    go_upto_region 11 with fail
    have HX15 := Lib.hid (HX14.out.alloc (vObj 1 0 [] 0)).2
    have HE15 := Lib.hid (blk_alloc HE14.out (vObj 1 0 [] 0))
    have HL15 := Lib.hid (blk_alloc HL14.out (vObj 1 0 [] 0))
    have HG15 := Lib.hid (blk_alloc HG14.out (vObj 1 0 [] 0))
    have HT15 := Lib.hid (heap_alloc_new w14 (vObj 1 0 [] 0))
    clear HX14 HE14 HL14 HG14
    generalize w14.alloc (vObj 1 0 [] 0) = w15 at *
    obtain ⟨a0, a1, a2, a3⟩ := cells4 HE15.out
    obtain ⟨b0, b1, b2, b3⟩ := cells4 HL15.out
    obtain ⟨c0, c1, c2, c3⟩ := cells4 HG15.out
    go_wp2_with fail
    have HS16 := Lib.hid (heap_alloc_new w15 (.cells #[.int .i64 1, .int .u64 18446744073709551615, .string ⟨#[]⟩, .int .i64 0, .int .i64 1, .int .u64 0, .string ⟨#[]⟩, .int .i64 0, .int .i64 1, .int .u64 0, .string ⟨#[]⟩, .int .i64 0] 24))
    clear a0 a1 a2 a3 b0 b1 b2 b3 c0 c1 c2 c3
    go_loopw [15, 68] (fun p q wr => (∃ j : Nat, j ≤ 3 ∧ q = .int .i64 j ∧ p = .int .i64 (if j = 0 then 0 else if j = 1 then 1 else if j = 2 then 1 else 1)) ∧ Hid (wr.heap[w13.heap.size]? = some (vObj 1 0 [] 0) ∧ wr.heap[w14.heap.size]? = some (vObj 1 0 [] 0) ∧ wr.heap[w15.heap.size]? = some (.cells #[.int .i64 1, .int .u64 18446744073709551615, .string ⟨#[]⟩, .int .i64 0, .int .i64 1, .int .u64 0, .string ⟨#[]⟩, .int .i64 0, .int .i64 1, .int .u64 0, .string ⟨#[]⟩, .int .i64 0] 24 (0, 0)) ∧ Below w.heap.size w wr)) (fun _ q _ => 3 - (intOf q).toNat)
    case atStart => exact ⟨⟨0, by omega, rfl, rfl⟩, Lib.hid ⟨blk_alloc HG15.out _, blk_alloc HT15.out _, HS16.out, HX15.out.alloc HX15.out.size _⟩⟩
    case round =>
      obtain ⟨⟨j, hj, rfl, rfl⟩, HW⟩ := hrel
      clear HS16 HX15 HE15 HL15 HG15 HT15
      by_cases h3 : j = 3
      · subst h3
        go_wp2_with fail
        ((with_reducible refine (awake_any _).mono ?_))
        rintro e w16 ⟨rfl, hb⟩
        have HB := Lib.hid (bel_then HW.out.2.2.2 (Nat.le_refl _) hb)
        obtain ⟨a0, a1, a2, a3⟩ := cells4 (blk_below HW.out.1 hb)
        obtain ⟨b0, b1, b2, b3⟩ := cells4 (blk_below HW.out.2.1 hb)
        clear hb HW
        go_wp2_with fail
        go_ret
        exact ⟨rfl, HB.out⟩
      have h012 : j = 0 ∨ j = 1 ∨ j = 2 := by omega
      clear h3 hj
      have cell := fun i => cell_of_row wr w15.heap.size i _ _ _ HW.out.2.2.1
      rcases h012 with rfl | rfl | rfl
      · have d0 := (cell 0).trans (rfl : _ = some _)
        have d1 := (cell 1).trans (rfl : _ = some _)
        have d2 := (cell 2).trans (rfl : _ = some _)
        have d3 := (cell 3).trans (rfl : _ = some _)
        clear cell
        go_upto_region 14 with fail
        have e0 : ∀ x, Grows _ x → _ := fun x (h : Grows (wr.alloc (vObj 1 18446744073709551615 [] 0)) x) => (cells4 (blk_below (heap_alloc_new wr (vObj 1 18446744073709551615 [] 0)) h)).1
        have e1 : ∀ x, Grows _ x → _ := fun x (h : Grows (wr.alloc (vObj 1 18446744073709551615 [] 0)) x) => (cells4 (blk_below (heap_alloc_new wr (vObj 1 18446744073709551615 [] 0)) h)).2.1
        have e2 : ∀ x, Grows _ x → _ := fun x (h : Grows (wr.alloc (vObj 1 18446744073709551615 [] 0)) x) => (cells4 (blk_below (heap_alloc_new wr (vObj 1 18446744073709551615 [] 0)) h)).2.2.1
        have e3 : ∀ x, Grows _ x → _ := fun x (h : Grows (wr.alloc (vObj 1 18446744073709551615 [] 0)) x) => (cells4 (blk_below (heap_alloc_new wr (vObj 1 18446744073709551615 [] 0)) h)).2.2.2
        clear d0 d1 d2 d3
        refine wp_region_plan (Grows _) 2 [.reads [0], .act 1, .act 2] (by kernel_rfl) (by kernel_rfl) (by kernel_rfl) (by kernel_rfl) (by kernel_rfl) (fun _ _ d _ _ h => by cases d <;> exact h) (Grows.self _) ?_
        refine wpPlan_reads ?_
        simp only [pickOps, List.drop_zero, List.take_succ_cons, List.take_zero, List.cons_append, List.nil_append]
        repeat (go_big_quiet_step (first | (intro hb; rw [e0 _ hb]; simp only [Result.andThen]; rw [e1 _ hb]; simp only; rw [e2 _ hb]; simp only; rw [e3 _ hb]; exact ⟨rfl, rfl⟩)))
        refine wpQuiet_nil ?_
        clear e0 e1 e2 e3
        refine wpPlan_act rfl ?_
        simp only [pickOps, List.drop_succ_cons, List.drop_zero, List.take_succ_cons, List.take_zero, List.cons_append, List.nil_append]
        go_wp2_with fail
        ((with_reducible refine (bool_true _).mono ?_))
        rintro e w17 ⟨rfl, hb⟩
        have HG := Lib.hid ((Grows.self _).trans hb)
        clear hb
        go_wp2_with fail
        refine ⟨fun _ => HG.out, ?_⟩
        refine wpPlan_act rfl ?_
        simp only [pickOps, List.drop_succ_cons, List.drop_zero, List.take_succ_cons, List.take_zero, List.cons_append, List.nil_append]
        go_wp2_with fail
        refine ⟨fun h => absurd h (by decide), wpPlan_nil ?_⟩
        have HW2 : Hid ((w17.heap[w13.heap.size]? = some (vObj 1 0 [] 0) ∧ w17.heap[w14.heap.size]? = some (vObj 1 0 [] 0) ∧ w17.heap[w15.heap.size]? = some (.cells #[.int .i64 1, .int .u64 18446744073709551615, .string ⟨#[]⟩, .int .i64 0, .int .i64 1, .int .u64 0, .string ⟨#[]⟩, .int .i64 0, .int .i64 1, .int .u64 0, .string ⟨#[]⟩, .int .i64 0] 24 (0, 0)) ∧ Below w.heap.size w w17) ∧ w17.heap[wr.heap.size]? = some (vObj 1 18446744073709551615 [] 0)) := Lib.hid ⟨⟨blk_below (blk_alloc HW.out.1 _) HG.out, blk_below (blk_alloc HW.out.2.1 _) HG.out, blk_below (blk_alloc HW.out.2.2.1 _) HG.out, bel_then (HW.out.2.2.2.alloc HW.out.2.2.2.size _) (Nat.le_refl _) HG.out⟩, blk_below (heap_alloc_new wr _) HG.out⟩
        clear HW HG
        go_wp2_with fail
        go_roundw
        case rel => exact ⟨⟨1, by omega, rfl, rfl⟩, Lib.hid HW2.out.1⟩
        case measure => simp [intOf]
      · have d0 := (cell 4).trans (rfl : _ = some _)
        have d1 := (cell 5).trans (rfl : _ = some _)
        have d2 := (cell 6).trans (rfl : _ = some _)
        have d3 := (cell 7).trans (rfl : _ = some _)
        clear cell
        go_upto_region 14 with fail
        have e0 : ∀ x, Grows _ x → _ := fun x (h : Grows (wr.alloc (vObj 1 0 [] 0)) x) => (cells4 (blk_below (heap_alloc_new wr (vObj 1 0 [] 0)) h)).1
        have e1 : ∀ x, Grows _ x → _ := fun x (h : Grows (wr.alloc (vObj 1 0 [] 0)) x) => (cells4 (blk_below (heap_alloc_new wr (vObj 1 0 [] 0)) h)).2.1
        have e2 : ∀ x, Grows _ x → _ := fun x (h : Grows (wr.alloc (vObj 1 0 [] 0)) x) => (cells4 (blk_below (heap_alloc_new wr (vObj 1 0 [] 0)) h)).2.2.1
        have e3 : ∀ x, Grows _ x → _ := fun x (h : Grows (wr.alloc (vObj 1 0 [] 0)) x) => (cells4 (blk_below (heap_alloc_new wr (vObj 1 0 [] 0)) h)).2.2.2
        clear d0 d1 d2 d3
        refine wp_region_plan (Grows _) 2 [.reads [0], .act 1, .act 2] (by kernel_rfl) (by kernel_rfl) (by kernel_rfl) (by kernel_rfl) (by kernel_rfl) (fun _ _ d _ _ h => by cases d <;> exact h) (Grows.self _) ?_
        refine wpPlan_reads ?_
        simp only [pickOps, List.drop_zero, List.take_succ_cons, List.take_zero, List.cons_append, List.nil_append]
        repeat (go_big_quiet_step (first | (intro hb; rw [e0 _ hb]; simp only [Result.andThen]; rw [e1 _ hb]; simp only; rw [e2 _ hb]; simp only; rw [e3 _ hb]; exact ⟨rfl, rfl⟩)))
        refine wpQuiet_nil ?_
        clear e0 e1 e2 e3
        refine wpPlan_act rfl ?_
        simp only [pickOps, List.drop_succ_cons, List.drop_zero, List.take_succ_cons, List.take_zero, List.cons_append, List.nil_append]
        go_wp2_with fail
        ((with_reducible refine (bool_true _).mono ?_))
        rintro e w17 ⟨rfl, hb⟩
        have HG := Lib.hid ((Grows.self _).trans hb)
        clear hb
        go_wp2_with fail
        refine ⟨fun _ => HG.out, ?_⟩
        refine wpPlan_act rfl ?_
        simp only [pickOps, List.drop_succ_cons, List.drop_zero, List.take_succ_cons, List.take_zero, List.cons_append, List.nil_append]
        go_wp2_with fail
        refine ⟨fun h => absurd h (by decide), wpPlan_nil ?_⟩
        have HW2 : Hid ((w17.heap[w13.heap.size]? = some (vObj 1 0 [] 0) ∧ w17.heap[w14.heap.size]? = some (vObj 1 0 [] 0) ∧ w17.heap[w15.heap.size]? = some (.cells #[.int .i64 1, .int .u64 18446744073709551615, .string ⟨#[]⟩, .int .i64 0, .int .i64 1, .int .u64 0, .string ⟨#[]⟩, .int .i64 0, .int .i64 1, .int .u64 0, .string ⟨#[]⟩, .int .i64 0] 24 (0, 0)) ∧ Below w.heap.size w w17) ∧ w17.heap[wr.heap.size]? = some (vObj 1 0 [] 0)) := Lib.hid ⟨⟨blk_below (blk_alloc HW.out.1 _) HG.out, blk_below (blk_alloc HW.out.2.1 _) HG.out, blk_below (blk_alloc HW.out.2.2.1 _) HG.out, bel_then (HW.out.2.2.2.alloc HW.out.2.2.2.size _) (Nat.le_refl _) HG.out⟩, blk_below (heap_alloc_new wr _) HG.out⟩
        clear HW HG
        go_upto_region 16 with fail
        have e0 : ∀ x, Grows _ x → _ := fun x (h : Grows w17 x) => (cells4 (blk_below HW2.out.2 h)).1
        have e1 : ∀ x, Grows _ x → _ := fun x (h : Grows w17 x) => (cells4 (blk_below HW2.out.2 h)).2.1
        have e2 : ∀ x, Grows _ x → _ := fun x (h : Grows w17 x) => (cells4 (blk_below HW2.out.2 h)).2.2.1
        have e3 : ∀ x, Grows _ x → _ := fun x (h : Grows w17 x) => (cells4 (blk_below HW2.out.2 h)).2.2.2
        refine wp_region_plan (Grows _) 2 [.reads [0], .act 1, .act 2] (by kernel_rfl) (by kernel_rfl) (by kernel_rfl) (by kernel_rfl) (by kernel_rfl) (fun _ _ d _ _ h => by cases d <;> exact h) (Grows.self _) ?_
        refine wpPlan_reads ?_
        simp only [pickOps, List.drop_zero, List.take_succ_cons, List.take_zero, List.cons_append, List.nil_append]
        repeat (go_big_quiet_step (first | (intro hb; rw [e0 _ hb]; simp only [Result.andThen]; rw [e1 _ hb]; simp only; rw [e2 _ hb]; simp only; rw [e3 _ hb]; exact ⟨rfl, rfl⟩)))
        refine wpQuiet_nil ?_
        clear e0 e1 e2 e3
        refine wpPlan_act rfl ?_
        simp only [pickOps, List.drop_succ_cons, List.drop_zero, List.take_succ_cons, List.take_zero, List.cons_append, List.nil_append]
        go_wp2_with fail
        ((with_reducible refine (bool_false _).mono ?_))
        rintro e w18 ⟨rfl, hb⟩
        have HG := Lib.hid ((Grows.self _).trans hb)
        clear hb
        go_wp2_with fail
        refine ⟨fun _ => HG.out, ?_⟩
        refine wpPlan_act rfl ?_
        simp only [pickOps, List.drop_succ_cons, List.drop_zero, List.take_succ_cons, List.take_zero, List.cons_append, List.nil_append]
        go_wp2_with fail
        refine ⟨fun h => absurd h (by decide), wpPlan_nil ?_⟩
        go_wp2_with fail
        go_roundw
        case rel => exact ⟨⟨2, by omega, rfl, rfl⟩, Lib.hid ⟨blk_below HW2.out.1.1 HG.out, blk_below HW2.out.1.2.1 HG.out, blk_below HW2.out.1.2.2.1 HG.out, bel_then HW2.out.1.2.2.2 (Nat.le_refl _) HG.out⟩⟩
        case measure => simp [intOf]
      · have d0 := (cell 8).trans (rfl : _ = some _)
        have d1 := (cell 9).trans (rfl : _ = some _)
        have d2 := (cell 10).trans (rfl : _ = some _)
        have d3 := (cell 11).trans (rfl : _ = some _)
        clear cell
        go_upto_region 14 with fail
        have e0 : ∀ x, Grows _ x → _ := fun x (h : Grows (wr.alloc (vObj 1 0 [] 0)) x) => (cells4 (blk_below (heap_alloc_new wr (vObj 1 0 [] 0)) h)).1
        have e1 : ∀ x, Grows _ x → _ := fun x (h : Grows (wr.alloc (vObj 1 0 [] 0)) x) => (cells4 (blk_below (heap_alloc_new wr (vObj 1 0 [] 0)) h)).2.1
        have e2 : ∀ x, Grows _ x → _ := fun x (h : Grows (wr.alloc (vObj 1 0 [] 0)) x) => (cells4 (blk_below (heap_alloc_new wr (vObj 1 0 [] 0)) h)).2.2.1
        have e3 : ∀ x, Grows _ x → _ := fun x (h : Grows (wr.alloc (vObj 1 0 [] 0)) x) => (cells4 (blk_below (heap_alloc_new wr (vObj 1 0 [] 0)) h)).2.2.2
        clear d0 d1 d2 d3
        refine wp_region_plan (Grows _) 2 [.reads [0], .act 1, .act 2] (by kernel_rfl) (by kernel_rfl) (by kernel_rfl) (by kernel_rfl) (by kernel_rfl) (fun _ _ d _ _ h => by cases d <;> exact h) (Grows.self _) ?_
        refine wpPlan_reads ?_
        simp only [pickOps, List.drop_zero, List.take_succ_cons, List.take_zero, List.cons_append, List.nil_append]
        repeat (go_big_quiet_step (first | (intro hb; rw [e0 _ hb]; simp only [Result.andThen]; rw [e1 _ hb]; simp only; rw [e2 _ hb]; simp only; rw [e3 _ hb]; exact ⟨rfl, rfl⟩)))
        refine wpQuiet_nil ?_
        clear e0 e1 e2 e3
        refine wpPlan_act rfl ?_
        simp only [pickOps, List.drop_succ_cons, List.drop_zero, List.take_succ_cons, List.take_zero, List.cons_append, List.nil_append]
        go_wp2_with fail
        ((with_reducible refine (bool_true _).mono ?_))
        rintro e w17 ⟨rfl, hb⟩
        have HG := Lib.hid ((Grows.self _).trans hb)
        clear hb
        go_wp2_with fail
        refine ⟨fun _ => HG.out, ?_⟩
        refine wpPlan_act rfl ?_
        simp only [pickOps, List.drop_succ_cons, List.drop_zero, List.take_succ_cons, List.take_zero, List.cons_append, List.nil_append]
        go_wp2_with fail
        refine ⟨fun h => absurd h (by decide), wpPlan_nil ?_⟩
        have HW2 : Hid ((w17.heap[w13.heap.size]? = some (vObj 1 0 [] 0) ∧ w17.heap[w14.heap.size]? = some (vObj 1 0 [] 0) ∧ w17.heap[w15.heap.size]? = some (.cells #[.int .i64 1, .int .u64 18446744073709551615, .string ⟨#[]⟩, .int .i64 0, .int .i64 1, .int .u64 0, .string ⟨#[]⟩, .int .i64 0, .int .i64 1, .int .u64 0, .string ⟨#[]⟩, .int .i64 0] 24 (0, 0)) ∧ Below w.heap.size w w17) ∧ w17.heap[wr.heap.size]? = some (vObj 1 0 [] 0)) := Lib.hid ⟨⟨blk_below (blk_alloc HW.out.1 _) HG.out, blk_below (blk_alloc HW.out.2.1 _) HG.out, blk_below (blk_alloc HW.out.2.2.1 _) HG.out, bel_then (HW.out.2.2.2.alloc HW.out.2.2.2.size _) (Nat.le_refl _) HG.out⟩, blk_below (heap_alloc_new wr _) HG.out⟩
        clear HW HG
        go_upto_region 16 with fail
        have e0 : ∀ x, Grows _ x → _ := fun x (h : Grows w17 x) => (cells4 (blk_below HW2.out.2 h)).1
        have e1 : ∀ x, Grows _ x → _ := fun x (h : Grows w17 x) => (cells4 (blk_below HW2.out.2 h)).2.1
        have e2 : ∀ x, Grows _ x → _ := fun x (h : Grows w17 x) => (cells4 (blk_below HW2.out.2 h)).2.2.1
        have e3 : ∀ x, Grows _ x → _ := fun x (h : Grows w17 x) => (cells4 (blk_below HW2.out.2 h)).2.2.2
        refine wp_region_plan (Grows _) 2 [.reads [0], .act 1, .act 2] (by kernel_rfl) (by kernel_rfl) (by kernel_rfl) (by kernel_rfl) (by kernel_rfl) (fun _ _ d _ _ h => by cases d <;> exact h) (Grows.self _) ?_
        refine wpPlan_reads ?_
        simp only [pickOps, List.drop_zero, List.take_succ_cons, List.take_zero, List.cons_append, List.nil_append]
        repeat (go_big_quiet_step (first | (intro hb; rw [e0 _ hb]; simp only [Result.andThen]; rw [e1 _ hb]; simp only; rw [e2 _ hb]; simp only; rw [e3 _ hb]; exact ⟨rfl, rfl⟩)))
        refine wpQuiet_nil ?_
        clear e0 e1 e2 e3
        refine wpPlan_act rfl ?_
        simp only [pickOps, List.drop_succ_cons, List.drop_zero, List.take_succ_cons, List.take_zero, List.cons_append, List.nil_append]
        go_wp2_with fail
        ((with_reducible refine (bool_false _).mono ?_))
        rintro e w18 ⟨rfl, hb⟩
        have HG := Lib.hid ((Grows.self _).trans hb)
        clear hb
        go_wp2_with fail
        refine ⟨fun _ => HG.out, ?_⟩
        refine wpPlan_act rfl ?_
        simp only [pickOps, List.drop_succ_cons, List.drop_zero, List.take_succ_cons, List.take_zero, List.cons_append, List.nil_append]
        go_wp2_with fail
        refine ⟨fun h => absurd h (by decide), wpPlan_nil ?_⟩
        go_wp2_with fail
        go_roundw
        case rel => exact ⟨⟨3, by omega, rfl, rfl⟩, Lib.hid ⟨blk_below HW2.out.1.1 HG.out, blk_below HW2.out.1.2.1 HG.out, blk_below HW2.out.1.2.2.1 HG.out, bel_then HW2.out.1.2.2.2 (Nat.le_refl _) HG.out⟩⟩
        case measure => simp [intOf]
  · replace HR1 : Hid (binV 72 K na sa K nb sb = (valV 1 0 [] 0, 0)) := HR1
    replace HR2 : Hid (binV 73 K na sa K nb sb = (valV 1 18446744073709551615 [] 0, 0)) := HR2
    replace HR3 : Hid (binV 74 K na sa K nb sb = (valV 1 0 [] 0, 0)) := HR3
    replace HR4 : Hid (binV 73 K nb sb K na sa = (valV 1 0 [] 0, 0)) := HR4
    go_wp2_with fail
    ((with_reducible refine (rvalid_is K nb ob sb true HV2 _ (by omega)).mono ?_))
    rintro e w10 ⟨rfl, hb⟩
    have HX10 := Lib.hid (HX9.out.below hb)
    clear hb a0 a1 a2 a3 b0 b1 b2 b3 HX9
    obtain ⟨a0, a1, a2, a3⟩ := cells4 HX10.out.1.1
    obtain ⟨b0, b1, b2, b3⟩ := cells4 HX10.out.1.2
    go_wp2_with fail
    ((with_reducible refine (bin_is 72 K na oa K nb ob sa sb _ _ HR1 _ (by omega) (by omega) fa1 fb1 fa2 fb2).mono ?_))
    rintro e w11 ⟨rfl, hb⟩
    have HX11 := Lib.hid (HX10.out.below hb)
    clear hb a0 a1 a2 a3 b0 b1 b2 b3 HX10
    have q0 := fun o => (cells4 (HX11.out.alloc o).1.1).1
    have q1 := fun o => (cells4 (HX11.out.alloc o).1.1).2.1
    have q2 := fun o => (cells4 (HX11.out.alloc o).1.1).2.2.1
    have q3 := fun o => (cells4 (HX11.out.alloc o).1.1).2.2.2
    have r0 := fun o => (cells4 (HX11.out.alloc o).1.2).1
    have r1 := fun o => (cells4 (HX11.out.alloc o).1.2).2.1
    have r2 := fun o => (cells4 (HX11.out.alloc o).1.2).2.2.1
    have r3 := fun o => (cells4 (HX11.out.alloc o).1.2).2.2.2
    go_wp2_with fail
    ((with_reducible refine (bin_is 73 K na oa K nb ob sa sb _ _ HR2 _ (by omega) (by omega) fa1 fb1 fa2 fb2).mono ?_))
    rintro e w12 ⟨rfl, hb⟩
    have HX12 := Lib.hid ((HX11.out.alloc _).below hb)
    have HE12 := Lib.hid (bel_alloc hb).2
    clear hb q0 q1 q2 q3 r0 r1 r2 r3 HX11
    have q0 := fun o => (cells4 (HX12.out.alloc o).1.1).1
    have q1 := fun o => (cells4 (HX12.out.alloc o).1.1).2.1
    have q2 := fun o => (cells4 (HX12.out.alloc o).1.1).2.2.1
    have q3 := fun o => (cells4 (HX12.out.alloc o).1.1).2.2.2
    have r0 := fun o => (cells4 (HX12.out.alloc o).1.2).1
    have r1 := fun o => (cells4 (HX12.out.alloc o).1.2).2.1
    have r2 := fun o => (cells4 (HX12.out.alloc o).1.2).2.2.1
    have r3 := fun o => (cells4 (HX12.out.alloc o).1.2).2.2.2
    go_wp2_with fail
    ((with_reducible refine (bin_is 74 K na oa K nb ob sa sb _ _ HR3 _ (by omega) (by omega) fa1 fb1 fa2 fb2).mono ?_))
    rintro e w13 ⟨rfl, hb⟩
    have HX13 := Lib.hid ((HX12.out.alloc _).below hb)
    have HE13 := Lib.hid (blk_below (blk_alloc HE12.out _) hb)
    have HL13 := Lib.hid (bel_alloc hb).2
    clear hb q0 q1 q2 q3 r0 r1 r2 r3 HX12 HE12
    have q0 := fun o => (cells4 (HX13.out.alloc o).1.1).1
    have q1 := fun o => (cells4 (HX13.out.alloc o).1.1).2.1
    have q2 := fun o => (cells4 (HX13.out.alloc o).1.1).2.2.1
    have q3 := fun o => (cells4 (HX13.out.alloc o).1.1).2.2.2
    have r0 := fun o => (cells4 (HX13.out.alloc o).1.2).1
    have r1 := fun o => (cells4 (HX13.out.alloc o).1.2).2.1
    have r2 := fun o => (cells4 (HX13.out.alloc o).1.2).2.2.1
    have r3 := fun o => (cells4 (HX13.out.alloc o).1.2).2.2.2
    go_wp2_with fail
    ((with_reducible refine (bin_is 73 K nb ob K na oa sb sa _ _ HR4 _ (by omega) (by omega) fb1 fa1 fb2 fa2).mono ?_))
    rintro e w14 ⟨rfl, hb⟩
    have HX14 := Lib.hid ((HX13.out.alloc _).below hb)
    have HE14 := Lib.hid (blk_below (blk_alloc HE13.out _) hb)
    have HL14 := Lib.hid (blk_below (blk_alloc HL13.out _) hb)
    have HG14 := Lib.hid (bel_alloc hb).2
    clear hb q0 q1 q2 q3 r0 r1 r2 r3 HX13 HE13 HL13
    go_upto_region 11 with fail
    have HX15 := Lib.hid (HX14.out.alloc (vObj 1 0 [] 0)).2
    have HE15 := Lib.hid (blk_alloc HE14.out (vObj 1 0 [] 0))
    have HL15 := Lib.hid (blk_alloc HL14.out (vObj 1 0 [] 0))
    have HG15 := Lib.hid (blk_alloc HG14.out (vObj 1 0 [] 0))
    have HT15 := Lib.hid (heap_alloc_new w14 (vObj 1 0 [] 0))
    clear HX14 HE14 HL14 HG14
    generalize w14.alloc (vObj 1 0 [] 0) = w15 at *
    obtain ⟨a0, a1, a2, a3⟩ := cells4 HE15.out
    obtain ⟨b0, b1, b2, b3⟩ := cells4 HL15.out
    obtain ⟨c0, c1, c2, c3⟩ := cells4 HG15.out
    go_wp2_with fail
    have HS16 := Lib.hid (heap_alloc_new w15 (.cells #[.int .i64 1, .int .u64 0, .string ⟨#[]⟩, .int .i64 0, .int .i64 1, .int .u64 18446744073709551615, .string ⟨#[]⟩, .int .i64 0, .int .i64 1, .int .u64 0, .string ⟨#[]⟩, .int .i64 0] 24))
    clear a0 a1 a2 a3 b0 b1 b2 b3 c0 c1 c2 c3
    go_loopw [15, 68] (fun p q wr => (∃ j : Nat, j ≤ 3 ∧ q = .int .i64 j ∧ p = .int .i64 (if j = 0 then 0 else if j = 1 then 0 else if j = 2 then 1 else 1)) ∧ Hid (wr.heap[w13.heap.size]? = some (vObj 1 0 [] 0) ∧ wr.heap[w14.heap.size]? = some (vObj 1 0 [] 0) ∧ wr.heap[w15.heap.size]? = some (.cells #[.int .i64 1, .int .u64 0, .string ⟨#[]⟩, .int .i64 0, .int .i64 1, .int .u64 18446744073709551615, .string ⟨#[]⟩, .int .i64 0, .int .i64 1, .int .u64 0, .string ⟨#[]⟩, .int .i64 0] 24 (0, 0)) ∧ Below w.heap.size w wr)) (fun _ q _ => 3 - (intOf q).toNat)
    case atStart => exact ⟨⟨0, by omega, rfl, rfl⟩, Lib.hid ⟨blk_alloc HG15.out _, blk_alloc HT15.out _, HS16.out, HX15.out.alloc HX15.out.size _⟩⟩
    case round =>
      obtain ⟨⟨j, hj, rfl, rfl⟩, HW⟩ := hrel
      clear HS16 HX15 HE15 HL15 HG15 HT15
      by_cases h3 : j = 3
      · subst h3
        go_wp2_with fail
        ((with_reducible refine (awake_any _).mono ?_))
        rintro e w16 ⟨rfl, hb⟩
        have HB := Lib.hid (bel_then HW.out.2.2.2 (Nat.le_refl _) hb)
        obtain ⟨a0, a1, a2, a3⟩ := cells4 (blk_below HW.out.1 hb)
        obtain ⟨b0, b1, b2, b3⟩ := cells4 (blk_below HW.out.2.1 hb)
        clear hb HW
        go_wp2_with fail
        go_ret
        exact ⟨rfl, HB.out⟩
      have h012 : j = 0 ∨ j = 1 ∨ j = 2 := by omega
      clear h3 hj
      have cell := fun i => cell_of_row wr w15.heap.size i _ _ _ HW.out.2.2.1
      rcases h012 with rfl | rfl | rfl
      · have d0 := (cell 0).trans (rfl : _ = some _)
        have d1 := (cell 1).trans (rfl : _ = some _)
        have d2 := (cell 2).trans (rfl : _ = some _)
        have d3 := (cell 3).trans (rfl : _ = some _)
        clear cell
        go_upto_region 14 with fail
        have e0 : ∀ x, Grows _ x → _ := fun x (h : Grows (wr.alloc (vObj 1 0 [] 0)) x) => (cells4 (blk_below (heap_alloc_new wr (vObj 1 0 [] 0)) h)).1
        have e1 : ∀ x, Grows _ x → _ := fun x (h : Grows (wr.alloc (vObj 1 0 [] 0)) x) => (cells4 (blk_below (heap_alloc_new wr (vObj 1 0 [] 0)) h)).2.1
        have e2 : ∀ x, Grows _ x → _ := fun x (h : Grows (wr.alloc (vObj 1 0 [] 0)) x) => (cells4 (blk_below (heap_alloc_new wr (vObj 1 0 [] 0)) h)).2.2.1
        have e3 : ∀ x, Grows _ x → _ := fun x (h : Grows (wr.alloc (vObj 1 0 [] 0)) x) => (cells4 (blk_below (heap_alloc_new wr (vObj 1 0 [] 0)) h)).2.2.2
        clear d0 d1 d2 d3
        refine wp_region_plan (Grows _) 2 [.reads [0], .act 1, .act 2] (by kernel_rfl) (by kernel_rfl) (by kernel_rfl) (by kernel_rfl) (by kernel_rfl) (fun _ _ d _ _ h => by cases d <;> exact h) (Grows.self _) ?_
        refine wpPlan_reads ?_
        simp only [pickOps, List.drop_zero, List.take_succ_cons, List.take_zero, List.cons_append, List.nil_append]
        repeat (go_big_quiet_step (first | (intro hb; rw [e0 _ hb]; simp only [Result.andThen]; rw [e1 _ hb]; simp only; rw [e2 _ hb]; simp only; rw [e3 _ hb]; exact ⟨rfl, rfl⟩)))
        refine wpQuiet_nil ?_
        clear e0 e1 e2 e3
        refine wpPlan_act rfl ?_
        simp only [pickOps, List.drop_succ_cons, List.drop_zero, List.take_succ_cons, List.take_zero, List.cons_append, List.nil_append]
        go_wp2_with fail
        ((with_reducible refine (bool_true _).mono ?_))
        rintro e w17 ⟨rfl, hb⟩
        have HG := Lib.hid ((Grows.self _).trans hb)
        clear hb
        go_wp2_with fail
        refine ⟨fun _ => HG.out, ?_⟩
        refine wpPlan_act rfl ?_
        simp only [pickOps, List.drop_succ_cons, List.drop_zero, List.take_succ_cons, List.take_zero, List.cons_append, List.nil_append]
        go_wp2_with fail
        refine ⟨fun h => absurd h (by decide), wpPlan_nil ?_⟩
        have HW2 : Hid ((w17.heap[w13.heap.size]? = some (vObj 1 0 [] 0) ∧ w17.heap[w14.heap.size]? = some (vObj 1 0 [] 0) ∧ w17.heap[w15.heap.size]? = some (.cells #[.int .i64 1, .int .u64 0, .string ⟨#[]⟩, .int .i64 0, .int .i64 1, .int .u64 18446744073709551615, .string ⟨#[]⟩, .int .i64 0, .int .i64 1, .int .u64 0, .string ⟨#[]⟩, .int .i64 0] 24 (0, 0)) ∧ Below w.heap.size w w17) ∧ w17.heap[wr.heap.size]? = some (vObj 1 0 [] 0)) := Lib.hid ⟨⟨blk_below (blk_alloc HW.out.1 _) HG.out, blk_below (blk_alloc HW.out.2.1 _) HG.out, blk_below (blk_alloc HW.out.2.2.1 _) HG.out, bel_then (HW.out.2.2.2.alloc HW.out.2.2.2.size _) (Nat.le_refl _) HG.out⟩, blk_below (heap_alloc_new wr _) HG.out⟩
        clear HW HG
        go_upto_region 16 with fail
        have e0 : ∀ x, Grows _ x → _ := fun x (h : Grows w17 x) => (cells4 (blk_below HW2.out.2 h)).1
        have e1 : ∀ x, Grows _ x → _ := fun x (h : Grows w17 x) => (cells4 (blk_below HW2.out.2 h)).2.1
        have e2 : ∀ x, Grows _ x → _ := fun x (h : Grows w17 x) => (cells4 (blk_below HW2.out.2 h)).2.2.1
        have e3 : ∀ x, Grows _ x → _ := fun x (h : Grows w17 x) => (cells4 (blk_below HW2.out.2 h)).2.2.2
        refine wp_region_plan (Grows _) 2 [.reads [0], .act 1, .act 2] (by kernel_rfl) (by kernel_rfl) (by kernel_rfl) (by kernel_rfl) (by kernel_rfl) (fun _ _ d _ _ h => by cases d <;> exact h) (Grows.self _) ?_
        refine wpPlan_reads ?_
        simp only [pickOps, List.drop_zero, List.take_succ_cons, List.take_zero, List.cons_append, List.nil_append]
        repeat (go_big_quiet_step (first | (intro hb; rw [e0 _ hb]; simp only [Result.andThen]; rw [e1 _ hb]; simp only; rw [e2 _ hb]; simp only; rw [e3 _ hb]; exact ⟨rfl, rfl⟩)))
        refine wpQuiet_nil ?_
        clear e0 e1 e2 e3
        refine wpPlan_act rfl ?_
        simp only [pickOps, List.drop_succ_cons, List.drop_zero, List.take_succ_cons, List.take_zero, List.cons_append, List.nil_append]
        go_wp2_with fail
        ((with_reducible refine (bool_false _).mono ?_))
        rintro e w18 ⟨rfl, hb⟩
        have HG := Lib.hid ((Grows.self _).trans hb)
        clear hb
        go_wp2_with fail
        refine ⟨fun _ => HG.out, ?_⟩
        refine wpPlan_act rfl ?_
        simp only [pickOps, List.drop_succ_cons, List.drop_zero, List.take_succ_cons, List.take_zero, List.cons_append, List.nil_append]
        go_wp2_with fail
        refine ⟨fun h => absurd h (by decide), wpPlan_nil ?_⟩
        go_wp2_with fail
        go_roundw
        case rel => exact ⟨⟨1, by omega, rfl, rfl⟩, Lib.hid ⟨blk_below HW2.out.1.1 HG.out, blk_below HW2.out.1.2.1 HG.out, blk_below HW2.out.1.2.2.1 HG.out, bel_then HW2.out.1.2.2.2 (Nat.le_refl _) HG.out⟩⟩
        case measure => simp [intOf]
      · have d0 := (cell 4).trans (rfl : _ = some _)
        have d1 := (cell 5).trans (rfl : _ = some _)
        have d2 := (cell 6).trans (rfl : _ = some _)
        have d3 := (cell 7).trans (rfl : _ = some _)
        clear cell
        go_upto_region 14 with fail
        have e0 : ∀ x, Grows _ x → _ := fun x (h : Grows (wr.alloc (vObj 1 18446744073709551615 [] 0)) x) => (cells4 (blk_below (heap_alloc_new wr (vObj 1 18446744073709551615 [] 0)) h)).1
        have e1 : ∀ x, Grows _ x → _ := fun x (h : Grows (wr.alloc (vObj 1 18446744073709551615 [] 0)) x) => (cells4 (blk_below (heap_alloc_new wr (vObj 1 18446744073709551615 [] 0)) h)).2.1
        have e2 : ∀ x, Grows _ x → _ := fun x (h : Grows (wr.alloc (vObj 1 18446744073709551615 [] 0)) x) => (cells4 (blk_below (heap_alloc_new wr (vObj 1 18446744073709551615 [] 0)) h)).2.2.1
        have e3 : ∀ x, Grows _ x → _ := fun x (h : Grows (wr.alloc (vObj 1 18446744073709551615 [] 0)) x) => (cells4 (blk_below (heap_alloc_new wr (vObj 1 18446744073709551615 [] 0)) h)).2.2.2
        clear d0 d1 d2 d3
        refine wp_region_plan (Grows _) 2 [.reads [0], .act 1, .act 2] (by kernel_rfl) (by kernel_rfl) (by kernel_rfl) (by kernel_rfl) (by kernel_rfl) (fun _ _ d _ _ h => by cases d <;> exact h) (Grows.self _) ?_
        refine wpPlan_reads ?_
        simp only [pickOps, List.drop_zero, List.take_succ_cons, List.take_zero, List.cons_append, List.nil_append]
        repeat (go_big_quiet_step (first | (intro hb; rw [e0 _ hb]; simp only [Result.andThen]; rw [e1 _ hb]; simp only; rw [e2 _ hb]; simp only; rw [e3 _ hb]; exact ⟨rfl, rfl⟩)))
        refine wpQuiet_nil ?_
        clear e0 e1 e2 e3
        refine wpPlan_act rfl ?_
        simp only [pickOps, List.drop_succ_cons, List.drop_zero, List.take_succ_cons, List.take_zero, List.cons_append, List.nil_append]
        go_wp2_with fail
        ((with_reducible refine (bool_true _).mono ?_))
        rintro e w17 ⟨rfl, hb⟩
        have HG := Lib.hid ((Grows.self _).trans hb)
        clear hb
        go_wp2_with fail
        refine ⟨fun _ => HG.out, ?_⟩
        refine wpPlan_act rfl ?_
        simp only [pickOps, List.drop_succ_cons, List.drop_zero, List.take_succ_cons, List.take_zero, List.cons_append, List.nil_append]
        go_wp2_with fail
        refine ⟨fun h => absurd h (by decide), wpPlan_nil ?_⟩
        have HW2 : Hid ((w17.heap[w13.heap.size]? = some (vObj 1 0 [] 0) ∧ w17.heap[w14.heap.size]? = some (vObj 1 0 [] 0) ∧ w17.heap[w15.heap.size]? = some (.cells #[.int .i64 1, .int .u64 0, .string ⟨#[]⟩, .int .i64 0, .int .i64 1, .int .u64 18446744073709551615, .string ⟨#[]⟩, .int .i64 0, .int .i64 1, .int .u64 0, .string ⟨#[]⟩, .int .i64 0] 24 (0, 0)) ∧ Below w.heap.size w w17) ∧ w17.heap[wr.heap.size]? = some (vObj 1 18446744073709551615 [] 0)) := Lib.hid ⟨⟨blk_below (blk_alloc HW.out.1 _) HG.out, blk_below (blk_alloc HW.out.2.1 _) HG.out, blk_below (blk_alloc HW.out.2.2.1 _) HG.out, bel_then (HW.out.2.2.2.alloc HW.out.2.2.2.size _) (Nat.le_refl _) HG.out⟩, blk_below (heap_alloc_new wr _) HG.out⟩
        clear HW HG
        go_wp2_with fail
        go_roundw
        case rel => exact ⟨⟨2, by omega, rfl, rfl⟩, Lib.hid HW2.out.1⟩
        case measure => simp [intOf]
      · have d0 := (cell 8).trans (rfl : _ = some _)
        have d1 := (cell 9).trans (rfl : _ = some _)
        have d2 := (cell 10).trans (rfl : _ = some _)
        have d3 := (cell 11).trans (rfl : _ = some _)
        clear cell
        go_upto_region 14 with fail
        have e0 : ∀ x, Grows _ x → _ := fun x (h : Grows (wr.alloc (vObj 1 0 [] 0)) x) => (cells4 (blk_below (heap_alloc_new wr (vObj 1 0 [] 0)) h)).1
        have e1 : ∀ x, Grows _ x → _ := fun x (h : Grows (wr.alloc (vObj 1 0 [] 0)) x) => (cells4 (blk_below (heap_alloc_new wr (vObj 1 0 [] 0)) h)).2.1
        have e2 : ∀ x, Grows _ x → _ := fun x (h : Grows (wr.alloc (vObj 1 0 [] 0)) x) => (cells4 (blk_below (heap_alloc_new wr (vObj 1 0 [] 0)) h)).2.2.1
        have e3 : ∀ x, Grows _ x → _ := fun x (h : Grows (wr.alloc (vObj 1 0 [] 0)) x) => (cells4 (blk_below (heap_alloc_new wr (vObj 1 0 [] 0)) h)).2.2.2
        clear d0 d1 d2 d3
        refine wp_region_plan (Grows _) 2 [.reads [0], .act 1, .act 2] (by kernel_rfl) (by kernel_rfl) (by kernel_rfl) (by kernel_rfl) (by kernel_rfl) (fun _ _ d _ _ h => by cases d <;> exact h) (Grows.self _) ?_
        refine wpPlan_reads ?_
        simp only [pickOps, List.drop_zero, List.take_succ_cons, List.take_zero, List.cons_append, List.nil_append]
        repeat (go_big_quiet_step (first | (intro hb; rw [e0 _ hb]; simp only [Result.andThen]; rw [e1 _ hb]; simp only; rw [e2 _ hb]; simp only; rw [e3 _ hb]; exact ⟨rfl, rfl⟩)))
        refine wpQuiet_nil ?_
        clear e0 e1 e2 e3
        refine wpPlan_act rfl ?_
        simp only [pickOps, List.drop_succ_cons, List.drop_zero, List.take_succ_cons, List.take_zero, List.cons_append, List.nil_append]
        go_wp2_with fail
        ((with_reducible refine (bool_true _).mono ?_))
        rintro e w17 ⟨rfl, hb⟩
        have HG := Lib.hid ((Grows.self _).trans hb)
        clear hb
        go_wp2_with fail
        refine ⟨fun _ => HG.out, ?_⟩
        refine wpPlan_act rfl ?_
        simp only [pickOps, List.drop_succ_cons, List.drop_zero, List.take_succ_cons, List.take_zero, List.cons_append, List.nil_append]
        go_wp2_with fail
        refine ⟨fun h => absurd h (by decide), wpPlan_nil ?_⟩
        have HW2 : Hid ((w17.heap[w13.heap.size]? = some (vObj 1 0 [] 0) ∧ w17.heap[w14.heap.size]? = some (vObj 1 0 [] 0) ∧ w17.heap[w15.heap.size]? = some (.cells #[.int .i64 1, .int .u64 0, .string ⟨#[]⟩, .int .i64 0, .int .i64 1, .int .u64 18446744073709551615, .string ⟨#[]⟩, .int .i64 0, .int .i64 1, .int .u64 0, .string ⟨#[]⟩, .int .i64 0] 24 (0, 0)) ∧ Below w.heap.size w w17) ∧ w17.heap[wr.heap.size]? = some (vObj 1 0 [] 0)) := Lib.hid ⟨⟨blk_below (blk_alloc HW.out.1 _) HG.out, blk_below (blk_alloc HW.out.2.1 _) HG.out, blk_below (blk_alloc HW.out.2.2.1 _) HG.out, bel_then (HW.out.2.2.2.alloc HW.out.2.2.2.size _) (Nat.le_refl _) HG.out⟩, blk_below (heap_alloc_new wr _) HG.out⟩
        clear HW HG
        go_upto_region 16 with fail
        have e0 : ∀ x, Grows _ x → _ := fun x (h : Grows w17 x) => (cells4 (blk_below HW2.out.2 h)).1
        have e1 : ∀ x, Grows _ x → _ := fun x (h : Grows w17 x) => (cells4 (blk_below HW2.out.2 h)).2.1
        have e2 : ∀ x, Grows _ x → _ := fun x (h : Grows w17 x) => (cells4 (blk_below HW2.out.2 h)).2.2.1
        have e3 : ∀ x, Grows _ x → _ := fun x (h : Grows w17 x) => (cells4 (blk_below HW2.out.2 h)).2.2.2
        refine wp_region_plan (Grows _) 2 [.reads [0], .act 1, .act 2] (by kernel_rfl) (by kernel_rfl) (by kernel_rfl) (by kernel_rfl) (by kernel_rfl) (fun _ _ d _ _ h => by cases d <;> exact h) (Grows.self _) ?_
        refine wpPlan_reads ?_
        simp only [pickOps, List.drop_zero, List.take_succ_cons, List.take_zero, List.cons_append, List.nil_append]
        repeat (go_big_quiet_step (first | (intro hb; rw [e0 _ hb]; simp only [Result.andThen]; rw [e1 _ hb]; simp only; rw [e2 _ hb]; simp only; rw [e3 _ hb]; exact ⟨rfl, rfl⟩)))
        refine wpQuiet_nil ?_
        clear e0 e1 e2 e3
        refine wpPlan_act rfl ?_
        simp only [pickOps, List.drop_succ_cons, List.drop_zero, List.take_succ_cons, List.take_zero, List.cons_append, List.nil_append]
        go_wp2_with fail
        ((with_reducible refine (bool_false _).mono ?_))
        rintro e w18 ⟨rfl, hb⟩
        have HG := Lib.hid ((Grows.self _).trans hb)
        clear hb
        go_wp2_with fail
        refine ⟨fun _ => HG.out, ?_⟩
        refine wpPlan_act rfl ?_
        simp only [pickOps, List.drop_succ_cons, List.drop_zero, List.take_succ_cons, List.take_zero, List.cons_append, List.nil_append]
        go_wp2_with fail
        refine ⟨fun h => absurd h (by decide), wpPlan_nil ?_⟩
        go_wp2_with fail
        go_roundw
        case rel => exact ⟨⟨3, by omega, rfl, rfl⟩, Lib.hid ⟨blk_below HW2.out.1.1 HG.out, blk_below HW2.out.1.2.1 HG.out, blk_below HW2.out.1.2.2.1 HG.out, bel_then HW2.out.1.2.2.2 (Nat.le_refl _) HG.out⟩⟩
        case measure => simp [intOf]
  · replace HR1 : Hid (binV 72 K na sa K nb sb = (valV 1 0 [] 0, 0)) := HR1
    replace HR2 : Hid (binV 73 K na sa K nb sb = (valV 1 0 [] 0, 0)) := HR2
    replace HR3 : Hid (binV 74 K na sa K nb sb = (valV 1 18446744073709551615 [] 0, 0)) := HR3
    replace HR4 : Hid (binV 73 K nb sb K na sa = (valV 1 18446744073709551615 [] 0, 0)) := HR4
    go_wp2_with fail
    ((with_reducible refine (rvalid_is K nb ob sb true HV2 _ (by omega)).mono ?_))
    rintro e w10 ⟨rfl, hb⟩
    have HX10 := Lib.hid (HX9.out.below hb)
    clear hb a0 a1 a2 a3 b0 b1 b2 b3 HX9
    obtain ⟨a0, a1, a2, a3⟩ := cells4 HX10.out.1.1
    obtain ⟨b0, b1, b2, b3⟩ := cells4 HX10.out.1.2
    go_wp2_with fail
    ((with_reducible refine (bin_is 72 K na oa K nb ob sa sb _ _ HR1 _ (by omega) (by omega) fa1 fb1 fa2 fb2).mono ?_))
    rintro e w11 ⟨rfl, hb⟩
    have HX11 := Lib.hid (HX10.out.below hb)
    clear hb a0 a1 a2 a3 b0 b1 b2 b3 HX10
    have q0 := fun o => (cells4 (HX11.out.alloc o).1.1).1
    have q1 := fun o => (cells4 (HX11.out.alloc o).1.1).2.1
    have q2 := fun o => (cells4 (HX11.out.alloc o).1.1).2.2.1
    have q3 := fun o => (cells4 (HX11.out.alloc o).1.1).2.2.2
    have r0 := fun o => (cells4 (HX11.out.alloc o).1.2).1
    have r1 := fun o => (cells4 (HX11.out.alloc o).1.2).2.1
    have r2 := fun o => (cells4 (HX11.out.alloc o).1.2).2.2.1
    have r3 := fun o => (cells4 (HX11.out.alloc o).1.2).2.2.2
    go_wp2_with fail
    ((with_reducible refine (bin_is 73 K na oa K nb ob sa sb _ _ HR2 _ (by omega) (by omega) fa1 fb1 fa2 fb2).mono ?_))
    rintro e w12 ⟨rfl, hb⟩
    have HX12 := Lib.hid ((HX11.out.alloc _).below hb)
    have HE12 := Lib.hid (bel_alloc hb).2
    clear hb q0 q1 q2 q3 r0 r1 r2 r3 HX11
    have q0 := fun o => (cells4 (HX12.out.alloc o).1.1).1
    have q1 := fun o => (cells4 (HX12.out.alloc o).1.1).2.1
    have q2 := fun o => (cells4 (HX12.out.alloc o).1.1).2.2.1
    have q3 := fun o => (cells4 (HX12.out.alloc o).1.1).2.2.2
    have r0 := fun o => (cells4 (HX12.out.alloc o).1.2).1
    have r1 := fun o => (cells4 (HX12.out.alloc o).1.2).2.1
    have r2 := fun o => (cells4 (HX12.out.alloc o).1.2).2.2.1
    have r3 := fun o => (cells4 (HX12.out.alloc o).1.2).2.2.2
    go_wp2_with fail
    ((with_reducible refine (bin_is 74 K na oa K nb ob sa sb _ _ HR3 _ (by omega) (by omega) fa1 fb1 fa2 fb2).mono ?_))
    rintro e w13 ⟨rfl, hb⟩
    have HX13 := Lib.hid ((HX12.out.alloc _).below hb)
    have HE13 := Lib.hid (blk_below (blk_alloc HE12.out _) hb)
    have HL13 := Lib.hid (bel_alloc hb).2
    clear hb q0 q1 q2 q3 r0 r1 r2 r3 HX12 HE12
    have q0 := fun o => (cells4 (HX13.out.alloc o).1.1).1
    have q1 := fun o => (cells4 (HX13.out.alloc o).1.1).2.1
    have q2 := fun o => (cells4 (HX13.out.alloc o).1.1).2.2.1
    have q3 := fun o => (cells4 (HX13.out.alloc o).1.1).2.2.2
    have r0 := fun o => (cells4 (HX13.out.alloc o).1.2).1
    have r1 := fun o => (cells4 (HX13.out.alloc o).1.2).2.1
    have r2 := fun o => (cells4 (HX13.out.alloc o).1.2).2.2.1
    have r3 := fun o => (cells4 (HX13.out.alloc o).1.2).2.2.2
    go_wp2_with fail
    ((with_reducible refine (bin_is 73 K nb ob K na oa sb sa _ _ HR4 _ (by omega) (by omega) fb1 fa1 fb2 fa2).mono ?_))
    rintro e w14 ⟨rfl, hb⟩
    have HX14 := Lib.hid ((HX13.out.alloc _).below hb)
    have HE14 := Lib.hid (blk_below (blk_alloc HE13.out _) hb)
    have HL14 := Lib.hid (blk_below (blk_alloc HL13.out _) hb)
    have HG14 := Lib.hid (bel_alloc hb).2
    clear hb q0 q1 q2 q3 r0 r1 r2 r3 HX13 HE13 HL13
    go_upto_region 11 with fail
    have HX15 := Lib.hid (HX14.out.alloc (vObj 1 18446744073709551615 [] 0)).2
    have HE15 := Lib.hid (blk_alloc HE14.out (vObj 1 18446744073709551615 [] 0))
    have HL15 := Lib.hid (blk_alloc HL14.out (vObj 1 18446744073709551615 [] 0))
    have HG15 := Lib.hid (blk_alloc HG14.out (vObj 1 18446744073709551615 [] 0))
    have HT15 := Lib.hid (heap_alloc_new w14 (vObj 1 18446744073709551615 [] 0))
    clear HX14 HE14 HL14 HG14
    generalize w14.alloc (vObj 1 18446744073709551615 [] 0) = w15 at *
    obtain ⟨a0, a1, a2, a3⟩ := cells4 HE15.out
    obtain ⟨b0, b1, b2, b3⟩ := cells4 HL15.out
    obtain ⟨c0, c1, c2, c3⟩ := cells4 HG15.out
    go_wp2_with fail
    have HS16 := Lib.hid (heap_alloc_new w15 (.cells #[.int .i64 1, .int .u64 0, .string ⟨#[]⟩, .int .i64 0, .int .i64 1, .int .u64 0, .string ⟨#[]⟩, .int .i64 0, .int .i64 1, .int .u64 18446744073709551615, .string ⟨#[]⟩, .int .i64 0] 24))
    clear a0 a1 a2 a3 b0 b1 b2 b3 c0 c1 c2 c3
    go_loopw [15, 68] (fun p q wr => (∃ j : Nat, j ≤ 3 ∧ q = .int .i64 j ∧ p = .int .i64 (if j = 0 then 0 else if j = 1 then 0 else if j = 2 then 0 else 1)) ∧ Hid (wr.heap[w13.heap.size]? = some (vObj 1 18446744073709551615 [] 0) ∧ wr.heap[w14.heap.size]? = some (vObj 1 18446744073709551615 [] 0) ∧ wr.heap[w15.heap.size]? = some (.cells #[.int .i64 1, .int .u64 0, .string ⟨#[]⟩, .int .i64 0, .int .i64 1, .int .u64 0, .string ⟨#[]⟩, .int .i64 0, .int .i64 1, .int .u64 18446744073709551615, .string ⟨#[]⟩, .int .i64 0] 24 (0, 0)) ∧ Below w.heap.size w wr)) (fun _ q _ => 3 - (intOf q).toNat)
    case atStart => exact ⟨⟨0, by omega, rfl, rfl⟩, Lib.hid ⟨blk_alloc HG15.out _, blk_alloc HT15.out _, HS16.out, HX15.out.alloc HX15.out.size _⟩⟩
    case round =>
      obtain ⟨⟨j, hj, rfl, rfl⟩, HW⟩ := hrel
      clear HS16 HX15 HE15 HL15 HG15 HT15
      by_cases h3 : j = 3
      · subst h3
        go_wp2_with fail
        ((with_reducible refine (awake_any _).mono ?_))
        rintro e w16 ⟨rfl, hb⟩
        have HB := Lib.hid (bel_then HW.out.2.2.2 (Nat.le_refl _) hb)
        obtain ⟨a0, a1, a2, a3⟩ := cells4 (blk_below HW.out.1 hb)
        obtain ⟨b0, b1, b2, b3⟩ := cells4 (blk_below HW.out.2.1 hb)
        clear hb HW
        go_wp2_with fail
        go_ret
        exact ⟨rfl, HB.out⟩
      have h012 : j = 0 ∨ j = 1 ∨ j = 2 := by omega
      clear h3 hj
      have cell := fun i => cell_of_row wr w15.heap.size i _ _ _ HW.out.2.2.1
      rcases h012 with rfl | rfl | rfl
      · have d0 := (cell 0).trans (rfl : _ = some _)
        have d1 := (cell 1).trans (rfl : _ = some _)
        have d2 := (cell 2).trans (rfl : _ = some _)
        have d3 := (cell 3).trans (rfl : _ = some _)
        clear cell
        go_upto_region 14 with fail
        have e0 : ∀ x, Grows _ x → _ := fun x (h : Grows (wr.alloc (vObj 1 0 [] 0)) x) => (cells4 (blk_below (heap_alloc_new wr (vObj 1 0 [] 0)) h)).1
        have e1 : ∀ x, Grows _ x → _ := fun x (h : Grows (wr.alloc (vObj 1 0 [] 0)) x) => (cells4 (blk_below (heap_alloc_new wr (vObj 1 0 [] 0)) h)).2.1
        have e2 : ∀ x, Grows _ x → _ := fun x (h : Grows (wr.alloc (vObj 1 0 [] 0)) x) => (cells4 (blk_below (heap_alloc_new wr (vObj 1 0 [] 0)) h)).2.2.1
        have e3 : ∀ x, Grows _ x → _ := fun x (h : Grows (wr.alloc (vObj 1 0 [] 0)) x) => (cells4 (blk_below (heap_alloc_new wr (vObj 1 0 [] 0)) h)).2.2.2
        clear d0 d1 d2 d3
        refine wp_region_plan (Grows _) 2 [.reads [0], .act 1, .act 2] (by kernel_rfl) (by kernel_rfl) (by kernel_rfl) (by kernel_rfl) (by kernel_rfl) (fun _ _ d _ _ h => by cases d <;> exact h) (Grows.self _) ?_
        refine wpPlan_reads ?_
        simp only [pickOps, List.drop_zero, List.take_succ_cons, List.take_zero, List.cons_append, List.nil_append]
        repeat (go_big_quiet_step (first | (intro hb; rw [e0 _ hb]; simp only [Result.andThen]; rw [e1 _ hb]; simp only; rw [e2 _ hb]; simp only; rw [e3 _ hb]; exact ⟨rfl, rfl⟩)))
        refine wpQuiet_nil ?_
        clear e0 e1 e2 e3
        refine wpPlan_act rfl ?_
        simp only [pickOps, List.drop_succ_cons, List.drop_zero, List.take_succ_cons, List.take_zero, List.cons_append, List.nil_append]
        go_wp2_with fail
        ((with_reducible refine (bool_true _).mono ?_))
        rintro e w17 ⟨rfl, hb⟩
        have HG := Lib.hid ((Grows.self _).trans hb)
        clear hb
        go_wp2_with fail
        refine ⟨fun _ => HG.out, ?_⟩
        refine wpPlan_act rfl ?_
        simp only [pickOps, List.drop_succ_cons, List.drop_zero, List.take_succ_cons, List.take_zero, List.cons_append, List.nil_append]
        go_wp2_with fail
        refine ⟨fun h => absurd h (by decide), wpPlan_nil ?_⟩
        have HW2 : Hid ((w17.heap[w13.heap.size]? = some (vObj 1 18446744073709551615 [] 0) ∧ w17.heap[w14.heap.size]? = some (vObj 1 18446744073709551615 [] 0) ∧ w17.heap[w15.heap.size]? = some (.cells #[.int .i64 1, .int .u64 0, .string ⟨#[]⟩, .int .i64 0, .int .i64 1, .int .u64 0, .string ⟨#[]⟩, .int .i64 0, .int .i64 1, .int .u64 18446744073709551615, .string ⟨#[]⟩, .int .i64 0] 24 (0, 0)) ∧ Below w.heap.size w w17) ∧ w17.heap[wr.heap.size]? = some (vObj 1 0 [] 0)) := Lib.hid ⟨⟨blk_below (blk_alloc HW.out.1 _) HG.out, blk_below (blk_alloc HW.out.2.1 _) HG.out, blk_below (blk_alloc HW.out.2.2.1 _) HG.out, bel_then (HW.out.2.2.2.alloc HW.out.2.2.2.size _) (Nat.le_refl _) HG.out⟩, blk_below (heap_alloc_new wr _) HG.out⟩
        clear HW HG
        go_upto_region 16 with fail
        have e0 : ∀ x, Grows _ x → _ := fun x (h : Grows w17 x) => (cells4 (blk_below HW2.out.2 h)).1
        have e1 : ∀ x, Grows _ x → _ := fun x (h : Grows w17 x) => (cells4 (blk_below HW2.out.2 h)).2.1
        have e2 : ∀ x, Grows _ x → _ := fun x (h : Grows w17 x) => (cells4 (blk_below HW2.out.2 h)).2.2.1
        have e3 : ∀ x, Grows _ x → _ := fun x (h : Grows w17 x) => (cells4 (blk_below HW2.out.2 h)).2.2.2
        refine wp_region_plan (Grows _) 2 [.reads [0], .act 1, .act 2] (by kernel_rfl) (by kernel_rfl) (by kernel_rfl) (by kernel_rfl) (by kernel_rfl) (fun _ _ d _ _ h => by cases d <;> exact h) (Grows.self _) ?_
        refine wpPlan_reads ?_
        simp only [pickOps, List.drop_zero, List.take_succ_cons, List.take_zero, List.cons_append, List.nil_append]
        repeat (go_big_quiet_step (first | (intro hb; rw [e0 _ hb]; simp only [Result.andThen]; rw [e1 _ hb]; simp only; rw [e2 _ hb]; simp only; rw [e3 _ hb]; exact ⟨rfl, rfl⟩)))
        refine wpQuiet_nil ?_
        clear e0 e1 e2 e3
        refine wpPlan_act rfl ?_
        simp only [pickOps, List.drop_succ_cons, List.drop_zero, List.take_succ_cons, List.take_zero, List.cons_append, List.nil_append]
        go_wp2_with fail
        ((with_reducible refine (bool_false _).mono ?_))
        rintro e w18 ⟨rfl, hb⟩
        have HG := Lib.hid ((Grows.self _).trans hb)
        clear hb
        go_wp2_with fail
        refine ⟨fun _ => HG.out, ?_⟩
        refine wpPlan_act rfl ?_
        simp only [pickOps, List.drop_succ_cons, List.drop_zero, List.take_succ_cons, List.take_zero, List.cons_append, List.nil_append]
        go_wp2_with fail
        refine ⟨fun h => absurd h (by decide), wpPlan_nil ?_⟩
        go_wp2_with fail
        go_roundw
        case rel => exact ⟨⟨1, by omega, rfl, rfl⟩, Lib.hid ⟨blk_below HW2.out.1.1 HG.out, blk_below HW2.out.1.2.1 HG.out, blk_below HW2.out.1.2.2.1 HG.out, bel_then HW2.out.1.2.2.2 (Nat.le_refl _) HG.out⟩⟩
        case measure => simp [intOf]
      · have d0 := (cell 4).trans (rfl : _ = some _)
        have d1 := (cell 5).trans (rfl : _ = some _)
        have d2 := (cell 6).trans (rfl : _ = some _)
        have d3 := (cell 7).trans (rfl : _ = some _)
        clear cell
        go_upto_region 14 with fail
        have e0 : ∀ x, Grows _ x → _ := fun x (h : Grows (wr.alloc (vObj 1 0 [] 0)) x) => (cells4 (blk_below (heap_alloc_new wr (vObj 1 0 [] 0)) h)).1
        have e1 : ∀ x, Grows _ x → _ := fun x (h : Grows (wr.alloc (vObj 1 0 [] 0)) x) => (cells4 (blk_below (heap_alloc_new wr (vObj 1 0 [] 0)) h)).2.1
        have e2 : ∀ x, Grows _ x → _ := fun x (h : Grows (wr.alloc (vObj 1 0 [] 0)) x) => (cells4 (blk_below (heap_alloc_new wr (vObj 1 0 [] 0)) h)).2.2.1
        have e3 : ∀ x, Grows _ x → _ := fun x (h : Grows (wr.alloc (vObj 1 0 [] 0)) x) => (cells4 (blk_below (heap_alloc_new wr (vObj 1 0 [] 0)) h)).2.2.2
        clear d0 d1 d2 d3
        refine wp_region_plan (Grows _) 2 [.reads [0], .act 1, .act 2] (by kernel_rfl) (by kernel_rfl) (by kernel_rfl) (by kernel_rfl) (by kernel_rfl) (fun _ _ d _ _ h => by cases d <;> exact h) (Grows.self _) ?_
        refine wpPlan_reads ?_
        simp only [pickOps, List.drop_zero, List.take_succ_cons, List.take_zero, List.cons_append, List.nil_append]
        repeat (go_big_quiet_step (first | (intro hb; rw [e0 _ hb]; simp only [Result.andThen]; rw [e1 _ hb]; simp only; rw [e2 _ hb]; simp only; rw [e3 _ hb]; exact ⟨rfl, rfl⟩)))
        refine wpQuiet_nil ?_
        clear e0 e1 e2 e3
        refine wpPlan_act rfl ?_
        simp only [pickOps, List.drop_succ_cons, List.drop_zero, List.take_succ_cons, List.take_zero, List.cons_append, List.nil_append]
        go_wp2_with fail
        ((with_reducible refine (bool_true _).mono ?_))
        rintro e w17 ⟨rfl, hb⟩
        have HG := Lib.hid ((Grows.self _).trans hb)
        clear hb
        go_wp2_with fail
        refine ⟨fun _ => HG.out, ?_⟩
        refine wpPlan_act rfl ?_
        simp only [pickOps, List.drop_succ_cons, List.drop_zero, List.take_succ_cons, List.take_zero, List.cons_append, List.nil_append]
        go_wp2_with fail
        refine ⟨fun h => absurd h (by decide), wpPlan_nil ?_⟩
        have HW2 : Hid ((w17.heap[w13.heap.size]? = some (vObj 1 18446744073709551615 [] 0) ∧ w17.heap[w14.heap.size]? = some (vObj 1 18446744073709551615 [] 0) ∧ w17.heap[w15.heap.size]? = some (.cells #[.int .i64 1, .int .u64 0, .string ⟨#[]⟩, .int .i64 0, .int .i64 1, .int .u64 0, .string ⟨#[]⟩, .int .i64 0, .int .i64 1, .int .u64 18446744073709551615, .string ⟨#[]⟩, .int .i64 0] 24 (0, 0)) ∧ Below w.heap.size w w17) ∧ w17.heap[wr.heap.size]? = some (vObj 1 0 [] 0)) := Lib.hid ⟨⟨blk_below (blk_alloc HW.out.1 _) HG.out, blk_below (blk_alloc HW.out.2.1 _) HG.out, blk_below (blk_alloc HW.out.2.2.1 _) HG.out, bel_then (HW.out.2.2.2.alloc HW.out.2.2.2.size _) (Nat.le_refl _) HG.out⟩, blk_below (heap_alloc_new wr _) HG.out⟩
        clear HW HG
        go_upto_region 16 with fail
        have e0 : ∀ x, Grows _ x → _ := fun x (h : Grows w17 x) => (cells4 (blk_below HW2.out.2 h)).1
        have e1 : ∀ x, Grows _ x → _ := fun x (h : Grows w17 x) => (cells4 (blk_below HW2.out.2 h)).2.1
        have e2 : ∀ x, Grows _ x → _ := fun x (h : Grows w17 x) => (cells4 (blk_below HW2.out.2 h)).2.2.1
        have e3 : ∀ x, Grows _ x → _ := fun x (h : Grows w17 x) => (cells4 (blk_below HW2.out.2 h)).2.2.2
        refine wp_region_plan (Grows _) 2 [.reads [0], .act 1, .act 2] (by kernel_rfl) (by kernel_rfl) (by kernel_rfl) (by kernel_rfl) (by kernel_rfl) (fun _ _ d _ _ h => by cases d <;> exact h) (Grows.self _) ?_
        refine wpPlan_reads ?_
        simp only [pickOps, List.drop_zero, List.take_succ_cons, List.take_zero, List.cons_append, List.nil_append]
        repeat (go_big_quiet_step (first | (intro hb; rw [e0 _ hb]; simp only [Result.andThen]; rw [e1 _ hb]; simp only; rw [e2 _ hb]; simp only; rw [e3 _ hb]; exact ⟨rfl, rfl⟩)))
        refine wpQuiet_nil ?_
        clear e0 e1 e2 e3
        refine wpPlan_act rfl ?_
        simp only [pickOps, List.drop_succ_cons, List.drop_zero, List.take_succ_cons, List.take_zero, List.cons_append, List.nil_append]
        go_wp2_with fail
        ((with_reducible refine (bool_false _).mono ?_))
        rintro e w18 ⟨rfl, hb⟩
        have HG := Lib.hid ((Grows.self _).trans hb)
        clear hb
        go_wp2_with fail
        refine ⟨fun _ => HG.out, ?_⟩
        refine wpPlan_act rfl ?_
        simp only [pickOps, List.drop_succ_cons, List.drop_zero, List.take_succ_cons, List.take_zero, List.cons_append, List.nil_append]
        go_wp2_with fail
        refine ⟨fun h => absurd h (by decide), wpPlan_nil ?_⟩
        go_wp2_with fail
        go_roundw
        case rel => exact ⟨⟨2, by omega, rfl, rfl⟩, Lib.hid ⟨blk_below HW2.out.1.1 HG.out, blk_below HW2.out.1.2.1 HG.out, blk_below HW2.out.1.2.2.1 HG.out, bel_then HW2.out.1.2.2.2 (Nat.le_refl _) HG.out⟩⟩
        case measure => simp [intOf]
      · have d0 := (cell 8).trans (rfl : _ = some _)
        have d1 := (cell 9).trans (rfl : _ = some _)
        have d2 := (cell 10).trans (rfl : _ = some _)
        have d3 := (cell 11).trans (rfl : _ = some _)
        clear cell
        go_upto_region 14 with fail
        have e0 : ∀ x, Grows _ x → _ := fun x (h : Grows (wr.alloc (vObj 1 18446744073709551615 [] 0)) x) => (cells4 (blk_below (heap_alloc_new wr (vObj 1 18446744073709551615 [] 0)) h)).1
        have e1 : ∀ x, Grows _ x → _ := fun x (h : Grows (wr.alloc (vObj 1 18446744073709551615 [] 0)) x) => (cells4 (blk_below (heap_alloc_new wr (vObj 1 18446744073709551615 [] 0)) h)).2.1
        have e2 : ∀ x, Grows _ x → _ := fun x (h : Grows (wr.alloc (vObj 1 18446744073709551615 [] 0)) x) => (cells4 (blk_below (heap_alloc_new wr (vObj 1 18446744073709551615 [] 0)) h)).2.2.1
        have e3 : ∀ x, Grows _ x → _ := fun x (h : Grows (wr.alloc (vObj 1 18446744073709551615 [] 0)) x) => (cells4 (blk_below (heap_alloc_new wr (vObj 1 18446744073709551615 [] 0)) h)).2.2.2
        clear d0 d1 d2 d3
        refine wp_region_plan (Grows _) 2 [.reads [0], .act 1, .act 2] (by kernel_rfl) (by kernel_rfl) (by kernel_rfl) (by kernel_rfl) (by kernel_rfl) (fun _ _ d _ _ h => by cases d <;> exact h) (Grows.self _) ?_
        refine wpPlan_reads ?_
        simp only [pickOps, List.drop_zero, List.take_succ_cons, List.take_zero, List.cons_append, List.nil_append]
        repeat (go_big_quiet_step (first | (intro hb; rw [e0 _ hb]; simp only [Result.andThen]; rw [e1 _ hb]; simp only; rw [e2 _ hb]; simp only; rw [e3 _ hb]; exact ⟨rfl, rfl⟩)))
        refine wpQuiet_nil ?_
        clear e0 e1 e2 e3
        refine wpPlan_act rfl ?_
        simp only [pickOps, List.drop_succ_cons, List.drop_zero, List.take_succ_cons, List.take_zero, List.cons_append, List.nil_append]
        go_wp2_with fail
        ((with_reducible refine (bool_true _).mono ?_))
        rintro e w17 ⟨rfl, hb⟩
        have HG := Lib.hid ((Grows.self _).trans hb)
        clear hb
        go_wp2_with fail
        refine ⟨fun _ => HG.out, ?_⟩
        refine wpPlan_act rfl ?_
        simp only [pickOps, List.drop_succ_cons, List.drop_zero, List.take_succ_cons, List.take_zero, List.cons_append, List.nil_append]
        go_wp2_with fail
        refine ⟨fun h => absurd h (by decide), wpPlan_nil ?_⟩
        have HW2 : Hid ((w17.heap[w13.heap.size]? = some (vObj 1 18446744073709551615 [] 0) ∧ w17.heap[w14.heap.size]? = some (vObj 1 18446744073709551615 [] 0) ∧ w17.heap[w15.heap.size]? = some (.cells #[.int .i64 1, .int .u64 0, .string ⟨#[]⟩, .int .i64 0, .int .i64 1, .int .u64 0, .string ⟨#[]⟩, .int .i64 0, .int .i64 1, .int .u64 18446744073709551615, .string ⟨#[]⟩, .int .i64 0] 24 (0, 0)) ∧ Below w.heap.size w w17) ∧ w17.heap[wr.heap.size]? = some (vObj 1 18446744073709551615 [] 0)) := Lib.hid ⟨⟨blk_below (blk_alloc HW.out.1 _) HG.out, blk_below (blk_alloc HW.out.2.1 _) HG.out, blk_below (blk_alloc HW.out.2.2.1 _) HG.out, bel_then (HW.out.2.2.2.alloc HW.out.2.2.2.size _) (Nat.le_refl _) HG.out⟩, blk_below (heap_alloc_new wr _) HG.out⟩
        clear HW HG
        go_wp2_with fail
        go_roundw
        case rel => exact ⟨⟨3, by omega, rfl, rfl⟩, Lib.hid HW2.out.1⟩
        case measure => simp [intOf]
end Go.Proofs.Yteifmjhkedhomaa
