/- ValueMid: the walk. -/
import Derived.Test.YteifmjhkedhomaaVw
namespace Go.Proofs.Yteifmjhkedhomaa
open Go.RowKit
set_option linter.unusedVariables false
attribute [local go_sem] ByteArray.mk_append_mk bs_get bs_cut bs_end conv1 conv2

set_option maxRecDepth 100000 in
set_option maxHeartbeats 4000000 in
theorem law_mid (k1 n1 o1 k2 n2 o2 i' m' : Int) (small : Bool) (s1 s2 : List UInt8) (w : World) (F1 : Fits n1 s1) (F2 : Fits n2 s2) (hi0 : 0 ≤ i') (hi1 : i' ≤ 18446744073709551615) (hm0 : 0 ≤ m') (hm1 : m' ≤ 18446744073709551615) :
    Calls Try.prog 5 #[valV k1 n1 s1 o1, valV k2 n2 s2 o2, .int .u64 i', .int .u64 m', .bool small] w fun e w' => e = .returned (.bool true) ∧ Below w.heap.size w w' := by
  have HX0 := Lib.hid (Bx.start w (vObj k1 n1 s1 o1) (vObj k2 n2 s2 o2))
  obtain ⟨f1, f2, f3⟩ := F1
  obtain ⟨g1, g2, g3⟩ := F2
  go_enter Try.func5, Try.ntmps5
  go_upto_if 29 with fail
  go_cut [2, 3] (fun p q wx => ∃ i m : Int, p = .int .u64 i ∧ q = .int .u64 m ∧ 0 ≤ i ∧ i ≤ 18446744073709551615 ∧ 0 ≤ m ∧ m ≤ 18446744073709551615 ∧ Hid (Bx w wx (vObj k1 n1 s1 o1) (vObj k2 n2 s2 o2)))
  case first =>
    cases small
    · go_wp2_with fail
      go_meet
      exact ⟨i', m', rfl, rfl, hi0, hi1, hm0, hm1, HX0⟩
    · go_wp2_with fail
      go_meet
      exact ⟨_, _, rfl, rfl, by omega, by omega, by omega, by omega, HX0⟩
  case rest =>
    obtain ⟨i, m, rfl, rfl, i0, i1, m0, m1, HX⟩ := hcut
    obtain ⟨w0, rfl⟩ : ∃ x : World, x = wc := ⟨_, rfl⟩
    clear HX0 hi0 hi1 hm0 hm1
    obtain ⟨va, vb, vt, vc, er, hr⟩ := mid_form k1 n1 s1 i m
    have HR := Lib.hid hr
    clear hr
    obtain ⟨a0, a1, a2, a3⟩ := cells4 HX.out.1.1
    go_wp2_with fail
    ((with_reducible refine (lmid_is k1 n1 o1 i m s1 _ _ HR _ (by omega) i0 m0 i1 m1 f1).mono ?_))
    rintro e w1 ⟨rfl, hb⟩
    have HX1 := Lib.hid (HX.out.below hb)
    clear hb HX a0 a1 a2 a3
    have q0 := fun o => (cells4 (HX1.out.alloc o).1.1).1
    have q1 := fun o => (cells4 (HX1.out.alloc o).1.1).2.1
    have q2 := fun o => (cells4 (HX1.out.alloc o).1.1).2.2.1
    have q3 := fun o => (cells4 (HX1.out.alloc o).1.1).2.2.2
    go_wp2_with fail
    ((with_reducible refine (rmid_is k1 n1 o1 i m s1 _ _ HR _ (by omega) i0 m0 i1 m1 f1).mono ?_))
    rintro e w2 ⟨rfl, hb⟩
    have HX2 := Lib.hid ((HX1.out.alloc _).below hb)
    have HA2 := Lib.hid (bel_alloc hb).2
    clear hb HX1 q0 q1 q2 q3
    go_upto_region 5 with fail
    have HX3 := Lib.hid (HX2.out.alloc (vObj va vb vt vc))
    have HA3 := Lib.hid (blk_alloc HA2.out (vObj va vb vt vc))
    have HB3 := Lib.hid (heap_alloc_new w2 (vObj va vb vt vc))
    clear HX2 HA2
    generalize w2.alloc (vObj va vb vt vc) = w3 at *
    have kk0 : ∀ x, Grows _ x → _ := fun x (h : Grows w3 x) => (cells4 ((HX3.out.below h).1.1)).1
    have kk1 : ∀ x, Grows _ x → _ := fun x (h : Grows w3 x) => (cells4 ((HX3.out.below h).1.1)).2.1
    have kk2 : ∀ x, Grows _ x → _ := fun x (h : Grows w3 x) => (cells4 ((HX3.out.below h).1.1)).2.2.1
    have kk3 : ∀ x, Grows _ x → _ := fun x (h : Grows w3 x) => (cells4 ((HX3.out.below h).1.1)).2.2.2
    have ll0 : ∀ x, Grows _ x → _ := fun x (h : Grows w3 x) => (cells4 ((HX3.out.below h).1.2)).1
    have ll1 : ∀ x, Grows _ x → _ := fun x (h : Grows w3 x) => (cells4 ((HX3.out.below h).1.2)).2.1
    have ll2 : ∀ x, Grows _ x → _ := fun x (h : Grows w3 x) => (cells4 ((HX3.out.below h).1.2)).2.2.1
    have ll3 : ∀ x, Grows _ x → _ := fun x (h : Grows w3 x) => (cells4 ((HX3.out.below h).1.2)).2.2.2
    refine wp_region_plan (Grows w3) 6 [.reads [0, 2], .bag [1, 3, 4, 5], .act 6, .act 7] (by kernel_rfl) (by kernel_rfl) (by kernel_rfl) (by kernel_rfl) (by kernel_rfl) (fun _ _ d _ _ h => by cases d <;> exact h) (Grows.self _) ?_
    refine wpPlan_reads ?_
    simp only [pickOps, List.drop_succ_cons, List.drop_zero, List.take_succ_cons, List.take_zero, List.cons_append, List.nil_append]
    repeat (go_big_quiet_step (first | (intro hb; rw [kk0 _ hb]; simp only [Result.andThen]; rw [kk1 _ hb]; simp only; rw [kk2 _ hb]; simp only; rw [kk3 _ hb]; exact ⟨rfl, rfl⟩) | (intro hb; rw [ll0 _ hb]; simp only [Result.andThen]; rw [ll1 _ hb]; simp only; rw [ll2 _ hb]; simp only; rw [ll3 _ hb]; exact ⟨rfl, rfl⟩)))
    refine wpQuiet_nil ?_
    clear kk0 kk1 kk2 kk3 ll0 ll1 ll2 ll3
    refine wpPlan_bag (MidJ w3) (fun j => if j = 1 then u49 else if j = 3 then u51 else undef) rfl (MidJ.start _ _) ?_ ?_
    · intro j hj d u wz hd hdep HJ
      have HJ := Lib.hid HJ
      clear hdep hd
      simp only [List.mem_cons, List.not_mem_nil, or_false] at hj
      rcases hj with rfl | rfl | rfl | rfl
      · refine wpOp_list rfl ?_
        simp only [pickOps, List.drop_succ_cons, List.drop_zero, List.take_succ_cons, List.take_zero, List.cons_append, List.nil_append]
        simp only [fillOps, List.drop_succ_cons, List.drop_zero, List.take_succ_cons, List.take_zero, List.head?_cons, Option.bind_some, Act.put, List.setIfInBounds_toArray, List.set_cons_succ, List.set_cons_zero]
        go_wp2_with fail
        ((with_reducible refine (some_any k1 n1 o1 s1 _ f3 f1 f2).mono ?_))
        rintro e w5 ⟨ka, na, sa, oa, rfl, fa1, fa2, fa3, hb⟩
        have HJ5 := Lib.hid (HJ.out.call hb (.inl rfl) ⟨ka, na, sa, oa, rfl, fa1, fa2, fa3⟩)
        clear hb HJ
        go_wp2_with fail
        exact ⟨fun _ => HJ5.out.1, valV ka na sa oa, rfl, HJ5.out⟩
      · refine wpOp_list rfl ?_
        simp only [pickOps, List.drop_succ_cons, List.drop_zero, List.take_succ_cons, List.take_zero, List.cons_append, List.nil_append]
        simp only [fillOps, List.drop_succ_cons, List.drop_zero, List.take_succ_cons, List.take_zero, List.head?_cons, Option.bind_some, Act.put, List.setIfInBounds_toArray, List.set_cons_succ, List.set_cons_zero]
        go_wp2_with fail
        ((with_reducible refine (some_any k2 n2 o2 s2 _ g3 g1 g2).mono ?_))
        rintro e w5 ⟨ka, na, sa, oa, rfl, fa1, fa2, fa3, hb⟩
        have HJ5 := Lib.hid (HJ.out.call hb (.inr rfl) ⟨ka, na, sa, oa, rfl, fa1, fa2, fa3⟩)
        clear hb HJ
        go_wp2_with fail
        exact ⟨fun _ => HJ5.out.1, valV ka na sa oa, rfl, HJ5.out⟩
      · refine wpOp_list rfl ?_
        simp only [pickOps, List.drop_succ_cons, List.drop_zero, List.take_succ_cons, List.take_zero, List.cons_append, List.nil_append]
        simp only [fillOps, List.drop_succ_cons, List.drop_zero, List.take_succ_cons, List.take_zero, List.head?_cons, Option.bind_some, Act.put, List.setIfInBounds_toArray, List.set_cons_succ, List.set_cons_zero]
        go_wp2_with fail
        exact ⟨fun _ => (HJ.out.new (.inl rfl)).1, _, rfl, HJ.out.new (.inl rfl)⟩
      · refine wpOp_list rfl ?_
        simp only [pickOps, List.drop_succ_cons, List.drop_zero, List.take_succ_cons, List.take_zero, List.cons_append, List.nil_append]
        simp only [fillOps, List.drop_succ_cons, List.drop_zero, List.take_succ_cons, List.take_zero, List.head?_cons, Option.bind_some, Act.put, List.setIfInBounds_toArray, List.set_cons_succ, List.set_cons_zero]
        go_wp2_with fail
        exact ⟨fun _ => (HJ.out.new (.inr rfl)).1, _, rfl, HJ.out.new (.inr rfl)⟩
    · intro d u wz hall HJ
      obtain ⟨hg, h1, h3, h4, h5, h6⟩ := HJ
      obtain ⟨kx, nx, sx, ox, e1, fx1, fx2, fx3⟩ := h1 (hall 1 (by simp))
      obtain ⟨ky, ny, sy, oy, e3, fy1, fy2, fy3⟩ := h3 (hall 3 (by simp))
      obtain ⟨bx, hx⟩ := h4 (hall 4 (by simp))
      obtain ⟨bz, hy⟩ := h5 (hall 5 (by simp))
      have hne := h6 (hall 4 (by simp)) (hall 5 (by simp)) bx bz hx hy
      have e4 := hx.1
      have e5 := hy.1
      simp only [fillOps, List.drop_succ_cons, List.drop_zero, List.take_succ_cons, List.take_zero, List.head?_cons, Option.bind_some, Act.put, List.setIfInBounds_toArray, List.set_cons_succ, List.set_cons_zero]
      rw [e1, e3, e4, e5]
      clear e1 e3 e4 e5 h1 h3 h4 h5 h6 hall
      have HX4 := Lib.hid (put4 hx.2.2 (.int .i64 kx) (.int .u64 nx) (.string ⟨sx.toArray⟩) (.int .i64 ox))
      have HY4 := Lib.hid (blk_other (blk_other (blk_other (blk_other hy.2.2 ⟨bx, 0, none⟩ (.int .i64 kx) (Ne.symm hne)) ⟨bx, 1, none⟩ (.int .u64 nx) (Ne.symm hne)) ⟨bx, 2, none⟩ (.string ⟨sx.toArray⟩) (Ne.symm hne)) ⟨bx, 3, none⟩ (.int .i64 ox) (Ne.symm hne))
      have HG4 := Lib.hid (bel4 hg hx.2.1 (.int .i64 kx) (.int .u64 nx) (.string ⟨sx.toArray⟩) (.int .i64 ox))
      have HZ := Lib.hid hy.2.1
      have HN := Lib.hid hne
      obtain ⟨c0, c1, c2, c3⟩ := cells4 hx.2.2
      have fr0 := free3 hx.2.2 0
      have fr1 := free3 hx.2.2 1
      have fr2 := free3 hx.2.2 2
      have fr3 := free3 hx.2.2 3
      clear hx hy hg hne
      refine wpPlan_act rfl ?_
      simp only [pickOps, List.drop_succ_cons, List.drop_zero, List.take_succ_cons, List.take_zero, List.cons_append, List.nil_append]
      go_wp2_with fail
      refine ⟨fun h => absurd h (by decide), ?_⟩
      clear c0 c1 c2 c3 fr0 fr1 fr2 fr3
      generalize ((((wz.setCell ⟨bx, 0, none⟩ (.int .i64 kx)).setCell ⟨bx, 1, none⟩ (.int .u64 nx)).setCell ⟨bx, 2, none⟩ (.string ⟨sx.toArray⟩)).setCell ⟨bx, 3, none⟩ (.int .i64 ox)) = w4 at *
      have HX5 := Lib.hid (blk_other (blk_other (blk_other (blk_other HX4.out ⟨bz, 0, none⟩ (.int .i64 ky) HN.out) ⟨bz, 1, none⟩ (.int .u64 ny) HN.out) ⟨bz, 2, none⟩ (.string ⟨sy.toArray⟩) HN.out) ⟨bz, 3, none⟩ (.int .i64 oy) HN.out)
      have HY5 := Lib.hid (put4 HY4.out (.int .i64 ky) (.int .u64 ny) (.string ⟨sy.toArray⟩) (.int .i64 oy))
      have HG5 := Lib.hid (bel4 HG4.out HZ.out (.int .i64 ky) (.int .u64 ny) (.string ⟨sy.toArray⟩) (.int .i64 oy))
      obtain ⟨c0, c1, c2, c3⟩ := cells4 HY4.out
      have fr0 := free3 HY4.out 0
      have fr1 := free3 HY4.out 1
      have fr2 := free3 HY4.out 2
      have fr3 := free3 HY4.out 3
      refine wpPlan_act rfl ?_
      simp only [pickOps, List.drop_succ_cons, List.drop_zero, List.take_succ_cons, List.take_zero, List.cons_append, List.nil_append]
      go_wp2_with fail
      refine ⟨fun h => absurd h (by decide), wpPlan_nil ?_⟩
      clear c0 c1 c2 c3 fr0 fr1 fr2 fr3 HX4 HY4 HG4
      generalize ((((w4.setCell ⟨bz, 0, none⟩ (.int .i64 ky)).setCell ⟨bz, 1, none⟩ (.int .u64 ny)).setCell ⟨bz, 2, none⟩ (.string ⟨sy.toArray⟩)).setCell ⟨bz, 3, none⟩ (.int .i64 oy)) = w5 at *
      have HL5 : Hid (Bls w5 [(bx, vObj kx nx sx ox), (bz, vObj ky ny sy oy), (w1.heap.size, vObj va vb vt vc), (w2.heap.size, vObj va vb vt vc)]) := Lib.hid (by
        intro p hp
        simp only [List.mem_cons, List.not_mem_nil, or_false] at hp
        rcases hp with rfl | rfl | rfl | rfl
        · exact HX5.out
        · exact HY5.out
        · exact blk_below HA3.out HG5.out
        · exact blk_below HB3.out HG5.out)
      have HBW : Hid (Below w.heap.size w w5) := Lib.hid (bel_then HX3.out.2 (Nat.le_refl _) HG5.out)
      clear HX5 HY5 HG5 HA3 HB3 HX3 HZ HN
      obtain ⟨ra, rb, rt, rc, er2, hr2⟩ := mid_form kx nx sx i m
      have HR2 := Lib.hid hr2
      clear hr2
      obtain ⟨c0, c1, c2, c3⟩ := cells4 (HL5.out.has (b := bx) (o := vObj kx nx sx ox) (by simp))
      go_wp2_with fail
      ((with_reducible refine (lmid_is kx nx ox i m sx _ _ HR2 _ (by omega) i0 m0 i1 m1 fx1).mono ?_))
      rintro e w6 ⟨rfl, hb⟩
      have HL6 := Lib.hid (HL5.out.below hb)
      have HB6 := Lib.hid (bel_then HBW.out (Nat.le_refl _) hb)
      clear hb HL5 HBW c0 c1 c2 c3
      have q0 := fun o => (cells4 ((HL6.out.new o).has (b := bx) (o := vObj kx nx sx ox) (by simp))).1
      have q1 := fun o => (cells4 ((HL6.out.new o).has (b := bx) (o := vObj kx nx sx ox) (by simp))).2.1
      have q2 := fun o => (cells4 ((HL6.out.new o).has (b := bx) (o := vObj kx nx sx ox) (by simp))).2.2.1
      have q3 := fun o => (cells4 ((HL6.out.new o).has (b := bx) (o := vObj kx nx sx ox) (by simp))).2.2.2
      go_wp2_with fail
      ((with_reducible refine (rmid_is kx nx ox i m sx _ _ HR2 _ (by omega) i0 m0 i1 m1 fx1).mono ?_))
      rintro e w7 ⟨rfl, hb⟩
      have HL7 := Lib.hid ((HL6.out.new _).below hb)
      have HB7 := Lib.hid (bel_then (HB6.out.alloc HB6.out.size _) (Nat.le_refl _) hb)
      clear hb HL6 HB6 q0 q1 q2 q3
      go_upto_region 8 with fail
      have HL8 := Lib.hid (HL7.out.new (vObj ra rb rt rc))
      have HB8 := Lib.hid (HB7.out.alloc HB7.out.size (vObj ra rb rt rc))
      clear HL7 HB7
      generalize w7.alloc (vObj ra rb rt rc) = w8 at *
      go_wp2_with fail
      ((with_reducible refine (awake_any _).mono ?_))
      rintro e w9 ⟨rfl, hb⟩
      have HL9 := Lib.hid (HL8.out.below hb)
      have HB9 := Lib.hid (bel_then HB8.out (Nat.le_refl _) hb)
      clear hb HL8 HB8
      obtain ⟨ca0, ca1, ca2, ca3⟩ := cells4 (HL9.out.has (b := w1.heap.size) (o := vObj va vb vt vc) (by simp))
      obtain ⟨cb0, cb1, cb2, cb3⟩ := cells4 (HL9.out.has (b := w2.heap.size) (o := vObj va vb vt vc) (by simp))
      obtain ⟨cc0, cc1, cc2, cc3⟩ := cells4 (HL9.out.has (b := w6.heap.size) (o := vObj ra rb rt rc) (by simp))
      obtain ⟨cd0, cd1, cd2, cd3⟩ := cells4 (HL9.out.has (b := w7.heap.size) (o := vObj ra rb rt rc) (by simp))
      obtain ⟨cx0, cx1, cx2, cx3⟩ := cells4 (HL9.out.has (b := bx) (o := vObj kx nx sx ox) (by simp))
      by_cases hK : kx = 2 ∨ kx = 3
      · have HK := Lib.hid hK
        cases hv : validV kx sx
        · have HV := Lib.hid hv
          clear hv
          rcases hK with rfl | rfl
          all_goals
            go_wp2_with fail
            ((with_reducible refine (rvalid_is _ nx ox sx false HV _ (by omega)).mono ?_))
            rintro e w10 ⟨rfl, hb⟩
            have HB10 := Lib.hid (bel_then HB9.out (Nat.le_refl _) hb)
            clear hb
            go_wp2_with fail
            go_ret
            exact ⟨rfl, HB10.out⟩
        · have HV := Lib.hid hv
          clear hv
          obtain ⟨pa, pb, pt, pc, er3, hr3⟩ := bin_form 75 kx nx sx ky ny sy
          have HR3 := Lib.hid hr3
          clear hr3
          by_cases he : er3 = 0
          · subst he
            obtain ⟨t, ht1, ht2, ht3, ht4⟩ := cat_says HK.out HV.out HR3.out
            rw [ht3] at HR3
            have HF := Lib.hid (front_says kx sx t HK.out ht2)
            have HBk := Lib.hid (back_says kx sx t HK.out ht2 ht1)
            have HCV := Lib.hid (ht4 oy)
            have HCL : Hid (cleanV kx nx sx ox = valV kx 0 sx 0) := Lib.hid (by unfold cleanV; rw [if_neg (by omega), if_pos HK.out])
            have hl1 : (sx.length : Int) ≤ 255 := by rw [List.length_append] at ht2; omega
            have hl2 : (sx ++ t).length ≤ 9223372036854774000 := by omega
            have HNy : Hid (ny.toNat < 2 ^ 64) := Lib.hid (by have e : 2 ^ 64 = 18446744073709551616 := by decide
                                                              rw [e]; omega)
            clear ht1 ht2 ht3 ht4 HK
            rcases hK with rfl | rfl
            · go_wp2_with fail
              ((with_reducible refine (rvalid_is _ nx ox sx true HV _ (by omega)).mono ?_))
              rintro e w10 ⟨rfl, hb⟩
              have HL10 := Lib.hid (HL9.out.below hb)
              have HB10 := Lib.hid (bel_then HB9.out (Nat.le_refl _) hb)
              clear hb HL9 HB9 ca0 ca1 ca2 ca3 cb0 cb1 cb2 cb3 cc0 cc1 cc2 cc3 cd0 cd1 cd2 cd3 cx0 cx1 cx2 cx3
              obtain ⟨cx0, cx1, cx2, cx3⟩ := cells4 (HL10.out.has (b := bx) (o := vObj 2 nx sx ox) (by simp))
              obtain ⟨cy0, cy1, cy2, cy3⟩ := cells4 (HL10.out.has (b := bz) (o := vObj ky ny sy oy) (by simp))
              go_wp2_with fail
              ((with_reducible refine (bin_is 75 _ nx ox ky ny oy sx sy _ _ HR3 _ (by omega) (by omega) fx1 fy1 fx2 fy2).mono ?_))
              rintro e w11 ⟨rfl, hb⟩
              have HL11 := Lib.hid (HL10.out.below hb)
              have HB11 := Lib.hid (bel_then HB10.out (Nat.le_refl _) hb)
              clear hb HL10 HB10 cx0 cx1 cx2 cx3 cy0 cy1 cy2 cy3
              have q2 := fun o => (cells4 ((HL11.out.new o).has (b := bx) (o := vObj 2 nx sx ox) (by simp))).2.2.1
              go_wp2_with fail
              ((with_reducible refine (lmid_is _ 0 0 0 (sx.length : Int) (sx ++ t) _ _ HF _ hl2 (by omega) (by omega) (by omega) (by omega) (by omega)).mono ?_))
              rintro e w12 ⟨rfl, hb⟩
              have HL12 := Lib.hid ((HL11.out.new _).below hb)
              have HB12 := Lib.hid (bel_then (HB11.out.alloc HB11.out.size _) (Nat.le_refl _) hb)
              clear hb HL11 HB11 q2
              have q0 := fun o => (cells4 ((HL12.out.new o).has (b := w11.heap.size) (o := vObj 2 0 (sx ++ t) 0) (by simp))).1
              have q1 := fun o => (cells4 ((HL12.out.new o).has (b := w11.heap.size) (o := vObj 2 0 (sx ++ t) 0) (by simp))).2.1
              have q2 := fun o => (cells4 ((HL12.out.new o).has (b := w11.heap.size) (o := vObj 2 0 (sx ++ t) 0) (by simp))).2.2.1
              have q3 := fun o => (cells4 ((HL12.out.new o).has (b := w11.heap.size) (o := vObj 2 0 (sx ++ t) 0) (by simp))).2.2.2
              go_wp2_with fail
              ((with_reducible refine (lmid_is _ 0 0 (sx.length : Int) 1000 (sx ++ t) _ _ HBk _ hl2 (by omega) (by omega) (by omega) (by omega) (by omega)).mono ?_))
              rintro e w13 ⟨rfl, hb⟩
              have HL13 := Lib.hid ((HL12.out.new _).below hb)
              have HB13 := Lib.hid (bel_then (HB12.out.alloc HB12.out.size _) (Nat.le_refl _) hb)
              clear hb HL12 HB12 q0 q1 q2 q3
              have q0 := fun o => (cells4 ((HL13.out.new o).has (b := bz) (o := vObj ky ny sy oy) (by simp))).1
              have q1 := fun o => (cells4 ((HL13.out.new o).has (b := bz) (o := vObj ky ny sy oy) (by simp))).2.1
              have q2 := fun o => (cells4 ((HL13.out.new o).has (b := bz) (o := vObj ky ny sy oy) (by simp))).2.2.1
              have q3 := fun o => (cells4 ((HL13.out.new o).has (b := bz) (o := vObj ky ny sy oy) (by simp))).2.2.2
              have qx := fun o => (cells4 ((HL13.out.new o).has (b := bx) (o := vObj 2 nx sx ox) (by simp))).1
              go_wp2_with fail
              ((with_reducible refine (rconvert_is ky ny oy _ sy _ _ HCV _ (by omega) fy1 HNy).mono ?_))
              rintro e w14 ⟨rfl, hb⟩
              have HL14 := Lib.hid ((HL13.out.new _).below hb)
              have HB14 := Lib.hid (bel_then (HB13.out.alloc HB13.out.size _) (Nat.le_refl _) hb)
              clear hb HL13 HB13 q0 q1 q2 q3 qx
              go_upto_region 19 with fail
              have HL15 := Lib.hid (HL14.out.new (vObj 2 0 t 0))
              have HB15 := Lib.hid (HB14.out.alloc HB14.out.size (vObj 2 0 t 0))
              clear HL14 HB14
              generalize w14.alloc (vObj 2 0 t 0) = w15 at *
              have ka0 : ∀ x, Grows _ x → _ := fun x (h : Grows w15 x) => (cells4 ((HL15.out.below h).has (b := w12.heap.size) (o := vObj 2 0 sx 0) (by simp))).1
              have ka1 : ∀ x, Grows _ x → _ := fun x (h : Grows w15 x) => (cells4 ((HL15.out.below h).has (b := w12.heap.size) (o := vObj 2 0 sx 0) (by simp))).2.1
              have ka2 : ∀ x, Grows _ x → _ := fun x (h : Grows w15 x) => (cells4 ((HL15.out.below h).has (b := w12.heap.size) (o := vObj 2 0 sx 0) (by simp))).2.2.1
              have ka3 : ∀ x, Grows _ x → _ := fun x (h : Grows w15 x) => (cells4 ((HL15.out.below h).has (b := w12.heap.size) (o := vObj 2 0 sx 0) (by simp))).2.2.2
              have kb0 : ∀ x, Grows _ x → _ := fun x (h : Grows w15 x) => (cells4 ((HL15.out.below h).has (b := bx) (o := vObj 2 nx sx ox) (by simp))).1
              have kb1 : ∀ x, Grows _ x → _ := fun x (h : Grows w15 x) => (cells4 ((HL15.out.below h).has (b := bx) (o := vObj 2 nx sx ox) (by simp))).2.1
              have kb2 : ∀ x, Grows _ x → _ := fun x (h : Grows w15 x) => (cells4 ((HL15.out.below h).has (b := bx) (o := vObj 2 nx sx ox) (by simp))).2.2.1
              have kb3 : ∀ x, Grows _ x → _ := fun x (h : Grows w15 x) => (cells4 ((HL15.out.below h).has (b := bx) (o := vObj 2 nx sx ox) (by simp))).2.2.2
              have kc0 : ∀ x, Grows _ x → _ := fun x (h : Grows w15 x) => (cells4 ((HL15.out.below h).has (b := w13.heap.size) (o := vObj 2 0 t 0) (by simp))).1
              have kc1 : ∀ x, Grows _ x → _ := fun x (h : Grows w15 x) => (cells4 ((HL15.out.below h).has (b := w13.heap.size) (o := vObj 2 0 t 0) (by simp))).2.1
              have kc2 : ∀ x, Grows _ x → _ := fun x (h : Grows w15 x) => (cells4 ((HL15.out.below h).has (b := w13.heap.size) (o := vObj 2 0 t 0) (by simp))).2.2.1
              have kc3 : ∀ x, Grows _ x → _ := fun x (h : Grows w15 x) => (cells4 ((HL15.out.below h).has (b := w13.heap.size) (o := vObj 2 0 t 0) (by simp))).2.2.2
              have kd0 : ∀ x, Grows _ x → _ := fun x (h : Grows w15 x) => (cells4 ((HL15.out.below h).has (b := w14.heap.size) (o := vObj 2 0 t 0) (by simp))).1
              have kd1 : ∀ x, Grows _ x → _ := fun x (h : Grows w15 x) => (cells4 ((HL15.out.below h).has (b := w14.heap.size) (o := vObj 2 0 t 0) (by simp))).2.1
              have kd2 : ∀ x, Grows _ x → _ := fun x (h : Grows w15 x) => (cells4 ((HL15.out.below h).has (b := w14.heap.size) (o := vObj 2 0 t 0) (by simp))).2.2.1
              have kd3 : ∀ x, Grows _ x → _ := fun x (h : Grows w15 x) => (cells4 ((HL15.out.below h).has (b := w14.heap.size) (o := vObj 2 0 t 0) (by simp))).2.2.2
              refine wp_region_plan (Grows w15) 9 [.reads [0, 1], .act 2, .reads [3, 4, 5, 6, 7, 8], .act 9] (by kernel_rfl) (by kernel_rfl) (by kernel_rfl) (by kernel_rfl) (by kernel_rfl) (fun _ _ d _ _ h => by cases d <;> exact h) (Grows.self _) ?_
              refine wpPlan_reads ?_
              simp only [pickOps, List.drop_succ_cons, List.drop_zero, List.take_succ_cons, List.take_zero, List.cons_append, List.nil_append]
              repeat (go_big_quiet_step (first | (intro hb; rw [ka0 _ hb]; simp only [Result.andThen]; rw [ka1 _ hb]; simp only; rw [ka2 _ hb]; simp only; rw [ka3 _ hb]; exact ⟨rfl, rfl⟩) | (intro hb; rw [kb0 _ hb]; simp only [Result.andThen]; rw [kb1 _ hb]; simp only; rw [kb2 _ hb]; simp only; rw [kb3 _ hb]; exact ⟨rfl, rfl⟩)))
              refine wpQuiet_nil ?_
              refine wpPlan_act rfl ?_
              simp only [pickOps, List.drop_succ_cons, List.drop_zero, List.take_succ_cons, List.take_zero, List.cons_append, List.nil_append]
              go_wp2_with fail
              ((with_reducible refine (clean_is _ nx ox sx _ HCL _).mono ?_))
              rintro e w16 ⟨rfl, hb⟩
              have HG := Lib.hid ((Grows.self w15).trans hb)
              clear hb
              go_wp2_with fail
              refine ⟨fun _ => HG.out, ?_⟩
              refine wpPlan_reads ?_
              simp only [pickOps, List.drop_succ_cons, List.drop_zero, List.take_succ_cons, List.take_zero, List.cons_append, List.nil_append]
              repeat (go_big_quiet_step (first | (intro hb; rw [kc0 _ hb]; simp only [Result.andThen]; rw [kc1 _ hb]; simp only; rw [kc2 _ hb]; simp only; rw [kc3 _ hb]; exact ⟨rfl, rfl⟩) | (intro hb; rw [kd0 _ hb]; simp only [Result.andThen]; rw [kd1 _ hb]; simp only; rw [kd2 _ hb]; simp only; rw [kd3 _ hb]; exact ⟨rfl, rfl⟩)))
              refine wpQuiet_nil ?_
              clear ka0 ka1 ka2 ka3 kb0 kb1 kb2 kb3 kc0 kc1 kc2 kc3 kd0 kd1 kd2 kd3
              refine wpPlan_act rfl ?_
              simp only [pickOps, List.drop_succ_cons, List.drop_zero, List.take_succ_cons, List.take_zero, List.cons_append, List.nil_append]
              go_wp2_with fail
              refine ⟨fun h => absurd h (by decide), wpPlan_nil ?_⟩
              go_wp2_with fail
              go_ret
              exact ⟨rfl, bel_then HB15.out (Nat.le_refl _) HG.out⟩
            · go_wp2_with fail
              ((with_reducible refine (rvalid_is _ nx ox sx true HV _ (by omega)).mono ?_))
              rintro e w10 ⟨rfl, hb⟩
              have HL10 := Lib.hid (HL9.out.below hb)
              have HB10 := Lib.hid (bel_then HB9.out (Nat.le_refl _) hb)
              clear hb HL9 HB9 ca0 ca1 ca2 ca3 cb0 cb1 cb2 cb3 cc0 cc1 cc2 cc3 cd0 cd1 cd2 cd3 cx0 cx1 cx2 cx3
              obtain ⟨cx0, cx1, cx2, cx3⟩ := cells4 (HL10.out.has (b := bx) (o := vObj 3 nx sx ox) (by simp))
              obtain ⟨cy0, cy1, cy2, cy3⟩ := cells4 (HL10.out.has (b := bz) (o := vObj ky ny sy oy) (by simp))
              go_wp2_with fail
              ((with_reducible refine (bin_is 75 _ nx ox ky ny oy sx sy _ _ HR3 _ (by omega) (by omega) fx1 fy1 fx2 fy2).mono ?_))
              rintro e w11 ⟨rfl, hb⟩
              have HL11 := Lib.hid (HL10.out.below hb)
              have HB11 := Lib.hid (bel_then HB10.out (Nat.le_refl _) hb)
              clear hb HL10 HB10 cx0 cx1 cx2 cx3 cy0 cy1 cy2 cy3
              have q2 := fun o => (cells4 ((HL11.out.new o).has (b := bx) (o := vObj 3 nx sx ox) (by simp))).2.2.1
              go_wp2_with fail
              ((with_reducible refine (lmid_is _ 0 0 0 (sx.length : Int) (sx ++ t) _ _ HF _ hl2 (by omega) (by omega) (by omega) (by omega) (by omega)).mono ?_))
              rintro e w12 ⟨rfl, hb⟩
              have HL12 := Lib.hid ((HL11.out.new _).below hb)
              have HB12 := Lib.hid (bel_then (HB11.out.alloc HB11.out.size _) (Nat.le_refl _) hb)
              clear hb HL11 HB11 q2
              have q0 := fun o => (cells4 ((HL12.out.new o).has (b := w11.heap.size) (o := vObj 3 0 (sx ++ t) 0) (by simp))).1
              have q1 := fun o => (cells4 ((HL12.out.new o).has (b := w11.heap.size) (o := vObj 3 0 (sx ++ t) 0) (by simp))).2.1
              have q2 := fun o => (cells4 ((HL12.out.new o).has (b := w11.heap.size) (o := vObj 3 0 (sx ++ t) 0) (by simp))).2.2.1
              have q3 := fun o => (cells4 ((HL12.out.new o).has (b := w11.heap.size) (o := vObj 3 0 (sx ++ t) 0) (by simp))).2.2.2
              go_wp2_with fail
              ((with_reducible refine (lmid_is _ 0 0 (sx.length : Int) 1000 (sx ++ t) _ _ HBk _ hl2 (by omega) (by omega) (by omega) (by omega) (by omega)).mono ?_))
              rintro e w13 ⟨rfl, hb⟩
              have HL13 := Lib.hid ((HL12.out.new _).below hb)
              have HB13 := Lib.hid (bel_then (HB12.out.alloc HB12.out.size _) (Nat.le_refl _) hb)
              clear hb HL12 HB12 q0 q1 q2 q3
              have q0 := fun o => (cells4 ((HL13.out.new o).has (b := bz) (o := vObj ky ny sy oy) (by simp))).1
              have q1 := fun o => (cells4 ((HL13.out.new o).has (b := bz) (o := vObj ky ny sy oy) (by simp))).2.1
              have q2 := fun o => (cells4 ((HL13.out.new o).has (b := bz) (o := vObj ky ny sy oy) (by simp))).2.2.1
              have q3 := fun o => (cells4 ((HL13.out.new o).has (b := bz) (o := vObj ky ny sy oy) (by simp))).2.2.2
              have qx := fun o => (cells4 ((HL13.out.new o).has (b := bx) (o := vObj 3 nx sx ox) (by simp))).1
              go_wp2_with fail
              ((with_reducible refine (rconvert_is ky ny oy _ sy _ _ HCV _ (by omega) fy1 HNy).mono ?_))
              rintro e w14 ⟨rfl, hb⟩
              have HL14 := Lib.hid ((HL13.out.new _).below hb)
              have HB14 := Lib.hid (bel_then (HB13.out.alloc HB13.out.size _) (Nat.le_refl _) hb)
              clear hb HL13 HB13 q0 q1 q2 q3 qx
              go_upto_region 19 with fail
              have HL15 := Lib.hid (HL14.out.new (vObj 3 0 t 0))
              have HB15 := Lib.hid (HB14.out.alloc HB14.out.size (vObj 3 0 t 0))
              clear HL14 HB14
              generalize w14.alloc (vObj 3 0 t 0) = w15 at *
              have ka0 : ∀ x, Grows _ x → _ := fun x (h : Grows w15 x) => (cells4 ((HL15.out.below h).has (b := w12.heap.size) (o := vObj 3 0 sx 0) (by simp))).1
              have ka1 : ∀ x, Grows _ x → _ := fun x (h : Grows w15 x) => (cells4 ((HL15.out.below h).has (b := w12.heap.size) (o := vObj 3 0 sx 0) (by simp))).2.1
              have ka2 : ∀ x, Grows _ x → _ := fun x (h : Grows w15 x) => (cells4 ((HL15.out.below h).has (b := w12.heap.size) (o := vObj 3 0 sx 0) (by simp))).2.2.1
              have ka3 : ∀ x, Grows _ x → _ := fun x (h : Grows w15 x) => (cells4 ((HL15.out.below h).has (b := w12.heap.size) (o := vObj 3 0 sx 0) (by simp))).2.2.2
              have kb0 : ∀ x, Grows _ x → _ := fun x (h : Grows w15 x) => (cells4 ((HL15.out.below h).has (b := bx) (o := vObj 3 nx sx ox) (by simp))).1
              have kb1 : ∀ x, Grows _ x → _ := fun x (h : Grows w15 x) => (cells4 ((HL15.out.below h).has (b := bx) (o := vObj 3 nx sx ox) (by simp))).2.1
              have kb2 : ∀ x, Grows _ x → _ := fun x (h : Grows w15 x) => (cells4 ((HL15.out.below h).has (b := bx) (o := vObj 3 nx sx ox) (by simp))).2.2.1
              have kb3 : ∀ x, Grows _ x → _ := fun x (h : Grows w15 x) => (cells4 ((HL15.out.below h).has (b := bx) (o := vObj 3 nx sx ox) (by simp))).2.2.2
              have kc0 : ∀ x, Grows _ x → _ := fun x (h : Grows w15 x) => (cells4 ((HL15.out.below h).has (b := w13.heap.size) (o := vObj 3 0 t 0) (by simp))).1
              have kc1 : ∀ x, Grows _ x → _ := fun x (h : Grows w15 x) => (cells4 ((HL15.out.below h).has (b := w13.heap.size) (o := vObj 3 0 t 0) (by simp))).2.1
              have kc2 : ∀ x, Grows _ x → _ := fun x (h : Grows w15 x) => (cells4 ((HL15.out.below h).has (b := w13.heap.size) (o := vObj 3 0 t 0) (by simp))).2.2.1
              have kc3 : ∀ x, Grows _ x → _ := fun x (h : Grows w15 x) => (cells4 ((HL15.out.below h).has (b := w13.heap.size) (o := vObj 3 0 t 0) (by simp))).2.2.2
              have kd0 : ∀ x, Grows _ x → _ := fun x (h : Grows w15 x) => (cells4 ((HL15.out.below h).has (b := w14.heap.size) (o := vObj 3 0 t 0) (by simp))).1
              have kd1 : ∀ x, Grows _ x → _ := fun x (h : Grows w15 x) => (cells4 ((HL15.out.below h).has (b := w14.heap.size) (o := vObj 3 0 t 0) (by simp))).2.1
              have kd2 : ∀ x, Grows _ x → _ := fun x (h : Grows w15 x) => (cells4 ((HL15.out.below h).has (b := w14.heap.size) (o := vObj 3 0 t 0) (by simp))).2.2.1
              have kd3 : ∀ x, Grows _ x → _ := fun x (h : Grows w15 x) => (cells4 ((HL15.out.below h).has (b := w14.heap.size) (o := vObj 3 0 t 0) (by simp))).2.2.2
              refine wp_region_plan (Grows w15) 9 [.reads [0, 1], .act 2, .reads [3, 4, 5, 6, 7, 8], .act 9] (by kernel_rfl) (by kernel_rfl) (by kernel_rfl) (by kernel_rfl) (by kernel_rfl) (fun _ _ d _ _ h => by cases d <;> exact h) (Grows.self _) ?_
              refine wpPlan_reads ?_
              simp only [pickOps, List.drop_succ_cons, List.drop_zero, List.take_succ_cons, List.take_zero, List.cons_append, List.nil_append]
              repeat (go_big_quiet_step (first | (intro hb; rw [ka0 _ hb]; simp only [Result.andThen]; rw [ka1 _ hb]; simp only; rw [ka2 _ hb]; simp only; rw [ka3 _ hb]; exact ⟨rfl, rfl⟩) | (intro hb; rw [kb0 _ hb]; simp only [Result.andThen]; rw [kb1 _ hb]; simp only; rw [kb2 _ hb]; simp only; rw [kb3 _ hb]; exact ⟨rfl, rfl⟩)))
              refine wpQuiet_nil ?_
              refine wpPlan_act rfl ?_
              simp only [pickOps, List.drop_succ_cons, List.drop_zero, List.take_succ_cons, List.take_zero, List.cons_append, List.nil_append]
              go_wp2_with fail
              ((with_reducible refine (clean_is _ nx ox sx _ HCL _).mono ?_))
              rintro e w16 ⟨rfl, hb⟩
              have HG := Lib.hid ((Grows.self w15).trans hb)
              clear hb
              go_wp2_with fail
              refine ⟨fun _ => HG.out, ?_⟩
              refine wpPlan_reads ?_
              simp only [pickOps, List.drop_succ_cons, List.drop_zero, List.take_succ_cons, List.take_zero, List.cons_append, List.nil_append]
              repeat (go_big_quiet_step (first | (intro hb; rw [kc0 _ hb]; simp only [Result.andThen]; rw [kc1 _ hb]; simp only; rw [kc2 _ hb]; simp only; rw [kc3 _ hb]; exact ⟨rfl, rfl⟩) | (intro hb; rw [kd0 _ hb]; simp only [Result.andThen]; rw [kd1 _ hb]; simp only; rw [kd2 _ hb]; simp only; rw [kd3 _ hb]; exact ⟨rfl, rfl⟩)))
              refine wpQuiet_nil ?_
              clear ka0 ka1 ka2 ka3 kb0 kb1 kb2 kb3 kc0 kc1 kc2 kc3 kd0 kd1 kd2 kd3
              refine wpPlan_act rfl ?_
              simp only [pickOps, List.drop_succ_cons, List.drop_zero, List.take_succ_cons, List.take_zero, List.cons_append, List.nil_append]
              go_wp2_with fail
              refine ⟨fun h => absurd h (by decide), wpPlan_nil ?_⟩
              go_wp2_with fail
              go_ret
              exact ⟨rfl, bel_then HB15.out (Nat.le_refl _) HG.out⟩
          · have he' : (er3 != 0) = true := by rw [bne_iff_ne]; exact he
            clear he HK
            rcases hK with rfl | rfl
            · go_wp2_with fail
              ((with_reducible refine (rvalid_is _ nx ox sx true HV _ (by omega)).mono ?_))
              rintro e w10 ⟨rfl, hb⟩
              have HL10 := Lib.hid (HL9.out.below hb)
              have HB10 := Lib.hid (bel_then HB9.out (Nat.le_refl _) hb)
              clear hb HL9 HB9 ca0 ca1 ca2 ca3 cb0 cb1 cb2 cb3 cc0 cc1 cc2 cc3 cd0 cd1 cd2 cd3 cx0 cx1 cx2 cx3
              obtain ⟨cx0, cx1, cx2, cx3⟩ := cells4 (HL10.out.has (b := bx) (o := vObj 2 nx sx ox) (by simp))
              obtain ⟨cy0, cy1, cy2, cy3⟩ := cells4 (HL10.out.has (b := bz) (o := vObj ky ny sy oy) (by simp))
              go_wp2_with fail
              ((with_reducible refine (bin_is 75 _ nx ox ky ny oy sx sy _ _ HR3 _ (by omega) (by omega) fx1 fy1 fx2 fy2).mono ?_))
              rintro e w11 ⟨rfl, hb⟩
              have HB11 := Lib.hid (bel_then HB10.out (Nat.le_refl _) hb)
              clear hb HL10 HB10 cx0 cx1 cx2 cx3 cy0 cy1 cy2 cy3
              go_wp2_with fail
              go_ret
              exact ⟨rfl, HB11.out.alloc HB11.out.size _⟩
            · go_wp2_with fail
              ((with_reducible refine (rvalid_is _ nx ox sx true HV _ (by omega)).mono ?_))
              rintro e w10 ⟨rfl, hb⟩
              have HL10 := Lib.hid (HL9.out.below hb)
              have HB10 := Lib.hid (bel_then HB9.out (Nat.le_refl _) hb)
              clear hb HL9 HB9 ca0 ca1 ca2 ca3 cb0 cb1 cb2 cb3 cc0 cc1 cc2 cc3 cd0 cd1 cd2 cd3 cx0 cx1 cx2 cx3
              obtain ⟨cx0, cx1, cx2, cx3⟩ := cells4 (HL10.out.has (b := bx) (o := vObj 3 nx sx ox) (by simp))
              obtain ⟨cy0, cy1, cy2, cy3⟩ := cells4 (HL10.out.has (b := bz) (o := vObj ky ny sy oy) (by simp))
              go_wp2_with fail
              ((with_reducible refine (bin_is 75 _ nx ox ky ny oy sx sy _ _ HR3 _ (by omega) (by omega) fx1 fy1 fx2 fy2).mono ?_))
              rintro e w11 ⟨rfl, hb⟩
              have HB11 := Lib.hid (bel_then HB10.out (Nat.le_refl _) hb)
              clear hb HL10 HB10 cx0 cx1 cx2 cx3 cy0 cy1 cy2 cy3
              go_wp2_with fail
              go_ret
              exact ⟨rfl, HB11.out.alloc HB11.out.size _⟩
      · have m2 : (kx != 2) = true := by rw [bne_iff_ne]; omega
        have m3 : (kx != 3) = true := by rw [bne_iff_ne]; omega
        clear hK
        go_wp2_with fail
        go_ret
        exact ⟨rfl, HB9.out⟩
end Go.Proofs.Yteifmjhkedhomaa
