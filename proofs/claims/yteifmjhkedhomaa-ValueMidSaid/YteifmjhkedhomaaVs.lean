/- ValueBinary: the walk. -/
import Derived.Test.YteifmjhkedhomaaVq
import Derived.Test.YteifmjhkedhomaaVr
namespace Go.Proofs.Yteifmjhkedhomaa
open Go.RowKit
set_option linter.unusedVariables false
attribute [local go_sem] ByteArray.mk_append_mk bs_get bs_cut bs_end conv1 conv2

theorem bin_form (op k1 n1 : Int) (s1 : List UInt8) (k2 n2 : Int) (s2 : List UInt8) : ∃ (a b : Int) (t : List UInt8) (c er : Int), binV op k1 n1 s1 k2 n2 s2 = (valV a b t c, er) := by
  have bad : ∀ e : Int, ∃ (a b : Int) (t : List UInt8) (c er : Int), badV e = (valV a b t c, er) := fun e => ⟨0, 0, [], 0, e, rfl⟩
  unfold binV
  split
  · exact bad _
  split
  · exact bad _
  split
  · exact bad _
  split
  · split
    · exact bad _
    · split
      · exact bad _
      · obtain ⟨a, b, t, c, h⟩ := valE_form (arV op (intV k1 n1 s1).1 (intV k2 n2 s2).1)
        exact ⟨a, b, t, c, _, by rw [h]⟩
  split
  · exact bad _
  split
  · exact bad _
  · unfold pairV
    split
    · obtain ⟨a, b, t, c, h⟩ := cat_form k1 n1 s1 (cvK k2 n2 s2 k1).1 (cvK k2 n2 s2 k1).2.1
      exact ⟨a, b, t, c, _, Prod.ext h rfl⟩
    · exact ⟨_, _, _, _, _, rfl⟩
/-- Two boxes. -/
def Bx (w wr : World) (o1 o2 : Obj) : Prop := (wr.heap[w.heap.size]? = some o1 ∧ wr.heap[w.heap.size + 1]? = some o2) ∧ Below w.heap.size w wr
theorem Bx.start (w : World) (o1 o2 : Obj) : Bx w ((w.alloc o1).alloc o2) o1 o2 := by
  refine ⟨⟨blk_alloc (heap_alloc_new w o1) _, ?_⟩, ((Below.refl _ _).alloc (Nat.le_refl _) _).alloc (by simp) _⟩
  have := heap_alloc_new (w.alloc o1) o2
  simpa using this
theorem Bx.below {w wr w2 : World} {o1 o2 : Obj} (h : Bx w wr o1 o2) (hb : Below wr.heap.size wr w2) : Bx w w2 o1 o2 := ⟨⟨blk_below h.1.1 hb, blk_below h.1.2 hb⟩, bel_then h.2 (Nat.le_refl _) hb⟩
theorem Bx.alloc {w wr : World} {o1 o2 : Obj} (h : Bx w wr o1 o2) (o : Obj) : Bx w (wr.alloc o) o1 o2 := h.below ((Below.refl _ _).alloc (Nat.le_refl _) _)
theorem Bx.drew {w wr : World} {o1 o2 : Obj} (h : Bx w wr o1 o2) : Bx w wr.drew o1 o2 := ⟨h.1, h.2.drew⟩
theorem Bx.put {w wr : World} {c0 c1 c2 c3 d0 d1 d2 d3 : Value} {t : Nat} (h : Bx w wr (.cells #[c0, c1, c2, c3] t (0, 0)) (.cells #[d0, d1, d2, d3] t (0, 0))) (a0 a1 a2 a3 b0 b1 b2 b3 : Value) :
    Bx w ((((((((wr.setCell ⟨w.heap.size, 0, none⟩ a0).setCell ⟨w.heap.size, 1, none⟩ a1).setCell ⟨w.heap.size, 2, none⟩ a2).setCell ⟨w.heap.size, 3, none⟩ a3).setCell ⟨w.heap.size + 1, 0, none⟩ b0).setCell ⟨w.heap.size + 1, 1, none⟩ b1).setCell ⟨w.heap.size + 1, 2, none⟩ b2).setCell ⟨w.heap.size + 1, 3, none⟩ b3) (.cells #[a0, a1, a2, a3] t (0, 0)) (.cells #[b0, b1, b2, b3] t (0, 0)) := by
  have e1 := put4 h.1.1 a0 a1 a2 a3
  have e2 := blk_other (blk_other (blk_other (blk_other h.1.2 ⟨w.heap.size, 0, none⟩ a0 (by simp)) ⟨w.heap.size, 1, none⟩ a1 (by simp)) ⟨w.heap.size, 2, none⟩ a2 (by simp)) ⟨w.heap.size, 3, none⟩ a3 (by simp)
  refine ⟨⟨?_, put4 e2 b0 b1 b2 b3⟩, bel4 (bel4 h.2 (Nat.le_refl _) _ _ _ _) (by omega) _ _ _ _⟩
  exact blk_other (blk_other (blk_other (blk_other e1 _ _ (by simp)) _ _ (by simp)) _ _ (by simp)) _ _ (by simp)
/-- What holds of a value at each round. -/
def Fits (n : Int) (s : List UInt8) : Prop := 0 ≤ n ∧ n ≤ 18446744073709551615 ∧ s.length ≤ 140737488355328

set_option maxRecDepth 100000 in
set_option maxHeartbeats 4000000 in
theorem law_binary (op' k1' n1' o1' k2' n2' o2' : Int) (s1' s2' : List UInt8) (w : World) (F1 : Fits n1' s1') (F2 : Fits n2' s2') :
    Calls Try.prog 3 #[.int .i64 op', valV k1' n1' s1' o1', valV k2' n2' s2' o2'] w fun e w' => e = .returned (.bool true) ∧ Below w.heap.size w w' := by
  have HX0 := Lib.hid (Bx.start w (vObj k1' n1' s1' o1') (vObj k2' n2' s2' o2'))
  go_enter Try.func3, Try.ntmps3
  go_wp2_with fail
  go_loopw [0, 7] (fun p q wr => ∃ (op k1 n1 o1 k2 n2 o2 : Int) (s1 s2 : List UInt8) (j : Nat), j ≤ 3 ∧ p = .int .i64 op ∧ q = .int .i64 j ∧ Fits n1 s1 ∧ Fits n2 s2 ∧ Hid (Bx w wr (vObj k1 n1 s1 o1) (vObj k2 n2 s2 o2))) (fun _ q _ => 3 - (intOf q).toNat)
  case atStart => exact ⟨op', k1', n1', o1', k2', n2', o2', s1', s2', 0, by omega, rfl, rfl, F1, F2, HX0⟩
  case round =>
    clear HX0 F1 F2
    obtain ⟨op, k1, n1, o1, k2, n2, o2, s1, s2, j, hj, rfl, rfl, F1, F2, HX⟩ := hrel
    obtain ⟨f1, f2, f3⟩ := F1
    obtain ⟨g1, g2, g3⟩ := F2
    obtain ⟨a0, a1, a2, a3⟩ := cells4 HX.out.1.1
    obtain ⟨b0, b1, b2, b3⟩ := cells4 HX.out.1.2
    by_cases h3 : j = 3
    · subst h3
      go_wp2_with fail
      ((with_reducible refine (awake_any _).mono ?_))
      rintro e w9 ⟨rfl, hb⟩
      have HB := Lib.hid (bel_then HX.out.2 (Nat.le_refl _) hb)
      clear hb
      go_wp2_with fail
      go_ret
      exact ⟨rfl, HB.out⟩
    obtain ⟨va, vb, vt, vc, er, hr⟩ := bin_form op k1 n1 s1 k2 n2 s2
    have HR := Lib.hid hr
    clear hr
    obtain ⟨m, hm⟩ : ∃ m, modV op 18 = m := ⟨_, rfl⟩
    have hm0 : 0 ≤ m := by rw [← hm]; exact modV_nonneg op 18 (by omega)
    have hm1 : m < 18 := by rw [← hm]; exact modV_lt op 18 (by omega)
    have HM := Lib.hid hm
    clear hm
    have hj012 : j = 0 ∨ j = 1 ∨ j = 2 := by omega
    clear h3 hj
    rcases hj012 with rfl | rfl | rfl
    all_goals
      go_wp2_with fail
      ((with_reducible refine (bin_is op k1 n1 o1 k2 n2 o2 s1 s2 _ _ HR _ (by omega) (by omega) f1 g1 f2 g2).mono ?_))
      rintro e w1 ⟨rfl, hb⟩
      have HX1 := Lib.hid (HX.out.below hb)
      clear hb HX a0 a1 a2 a3 b0 b1 b2 b3
      have q0 := fun o => (cells4 (HX1.out.alloc o).1.1).1
      have q1 := fun o => (cells4 (HX1.out.alloc o).1.1).2.1
      have q2 := fun o => (cells4 (HX1.out.alloc o).1.1).2.2.1
      have q3 := fun o => (cells4 (HX1.out.alloc o).1.1).2.2.2
      have r0 := fun o => (cells4 (HX1.out.alloc o).1.2).1
      have r1 := fun o => (cells4 (HX1.out.alloc o).1.2).2.1
      have r2 := fun o => (cells4 (HX1.out.alloc o).1.2).2.2.1
      have r3 := fun o => (cells4 (HX1.out.alloc o).1.2).2.2.2
      go_wp2_with fail
      ((with_reducible refine (rbin_is op k1 n1 o1 k2 n2 o2 s1 s2 _ _ HR _ (by omega) (by omega) f1 g1 f2 g2).mono ?_))
      rintro e w2 ⟨rfl, hb⟩
      have HX2 := Lib.hid ((HX1.out.alloc _).below hb)
      have HZ := Lib.hid (bel_alloc hb).2
      clear hb HX1 q0 q1 q2 q3 r0 r1 r2 r3
      go_upto_region 6 with fail
      have HX3 := Lib.hid (HX2.out.alloc (vObj va vb vt vc))
      have HZ3 := Lib.hid (blk_alloc HZ.out (vObj va vb vt vc))
      have HY3 := Lib.hid (heap_alloc_new w2 (vObj va vb vt vc))
      clear HX2 HZ
      generalize w2.alloc (vObj va vb vt vc) = w3 at *
      obtain ⟨a0, a1, a2, a3⟩ := cells4 HZ3.out
      obtain ⟨b0, b1, b2, b3⟩ := cells4 HY3.out
      go_wp2_with fail
      ((with_reducible refine (mod_is op 18 m HM _ (by omega) (by omega)).mono ?_))
      rintro e w4 ⟨rfl, rfl⟩
      clear a0 a1 a2 a3 b0 b1 b2 b3 HZ3 HY3
    · go_upto_region 10 with fail
      have k0 : ∀ x, Grows _ x → _ := fun x (h : Grows w3 x) => (cells4 (HX3.out.below h).1.1).1
      have kk1 : ∀ x, Grows _ x → _ := fun x (h : Grows w3 x) => (cells4 (HX3.out.below h).1.1).2.1
      have kk2 : ∀ x, Grows _ x → _ := fun x (h : Grows w3 x) => (cells4 (HX3.out.below h).1.1).2.2.1
      have k3 : ∀ x, Grows _ x → _ := fun x (h : Grows w3 x) => (cells4 (HX3.out.below h).1.1).2.2.2
      have l0 : ∀ x, Grows _ x → _ := fun x (h : Grows w3 x) => (cells4 (HX3.out.below h).1.2).1
      have l1 : ∀ x, Grows _ x → _ := fun x (h : Grows w3 x) => (cells4 (HX3.out.below h).1.2).2.1
      have l2 : ∀ x, Grows _ x → _ := fun x (h : Grows w3 x) => (cells4 (HX3.out.below h).1.2).2.2.1
      have l3 : ∀ x, Grows _ x → _ := fun x (h : Grows w3 x) => (cells4 (HX3.out.below h).1.2).2.2.2
      refine wp_region_plan (Grows _) 4 [.reads [0, 2], .act 1, .act 3, .act 4, .act 5] (by kernel_rfl) (by kernel_rfl) (by kernel_rfl) (by kernel_rfl) (by kernel_rfl) (fun _ _ d _ _ h => by cases d <;> exact h) (Grows.self _) ?_
      refine wpPlan_reads ?_
      simp only [pickOps, List.drop_succ_cons, List.drop_zero, List.take_succ_cons, List.take_zero, List.cons_append, List.nil_append]
      repeat (go_big_quiet_step (first | (intro hb; rw [k0 _ hb]; simp only [Result.andThen]; rw [kk1 _ hb]; simp only; rw [kk2 _ hb]; simp only; rw [k3 _ hb]; exact ⟨rfl, rfl⟩) | (intro hb; rw [l0 _ hb]; simp only [Result.andThen]; rw [l1 _ hb]; simp only; rw [l2 _ hb]; simp only; rw [l3 _ hb]; exact ⟨rfl, rfl⟩)))
      refine wpQuiet_nil ?_
      clear k0 kk1 kk2 k3 l0 l1 l2 l3
      refine wpPlan_act rfl ?_
      simp only [pickOps, List.drop_succ_cons, List.drop_zero, List.take_succ_cons, List.take_zero, List.cons_append, List.nil_append]
      go_wp2_with fail
      ((with_reducible refine (some_any k1 n1 o1 s1 _ f3 f1 f2).mono ?_))
      rintro e w5 ⟨ka, na, sa, oa, rfl, fa1, fa2, fa3, hb⟩
      have HX5 := Lib.hid (HX3.out.drew.below hb)
      have HG5 := Lib.hid ((Grows.self _).trans hb)
      clear hb HX3
      go_wp2_with fail
      refine ⟨fun _ => HG5.out, ?_⟩
      refine wpPlan_act rfl ?_
      simp only [pickOps, List.drop_succ_cons, List.drop_zero, List.take_succ_cons, List.take_zero, List.cons_append, List.nil_append]
      go_wp2_with fail
      ((with_reducible refine (some_any k2 n2 o2 s2 _ g3 g1 g2).mono ?_))
      rintro e w6 ⟨kb, nb, sb, ob, rfl, fb1, fb2, fb3, hb⟩
      have HX6 := Lib.hid (HX5.out.below hb)
      have HG6 := Lib.hid (HG5.out.trans hb)
      clear hb HX5 HG5
      obtain ⟨a0, a1, a2, a3⟩ := cells4 HX6.out.1.1
      obtain ⟨b0, b1, b2, b3⟩ := cells4 HX6.out.1.2
      have fr0 := free3 HX6.out.1.1 0
      have fr1 := free3 HX6.out.1.1 1
      have fr2 := free3 HX6.out.1.1 2
      have fr3 := free3 HX6.out.1.1 3
      have fs0 := free3 HX6.out.1.2 0
      have fs1 := free3 HX6.out.1.2 1
      have fs2 := free3 HX6.out.1.2 2
      have fs3 := free3 HX6.out.1.2 3
      go_wp2_with fail
      refine ⟨fun _ => HG6.out, ?_⟩
      refine wpPlan_act rfl ?_
      simp only [pickOps, List.drop_succ_cons, List.drop_zero, List.take_succ_cons, List.take_zero, List.cons_append, List.nil_append]
      go_wp2_with fail
      refine ⟨fun h => absurd h (by decide), ?_⟩
      refine wpPlan_act rfl ?_
      simp only [pickOps, List.drop_succ_cons, List.drop_zero, List.take_succ_cons, List.take_zero, List.cons_append, List.nil_append]
      go_wp2_with fail
      refine ⟨fun h => absurd h (by decide), wpPlan_nil ?_⟩
      go_wp2_with fail
      go_roundw
      case rel => exact ⟨60 + m, ka, na, oa, kb, nb, ob, sa, sb, 1, by omega, rfl, rfl, ⟨fa1, fa2, fa3⟩, ⟨fb1, fb2, fb3⟩, Lib.hid (HX6.out.put _ _ _ _ _ _ _ _)⟩
      case measure => simp [intOf]
    · go_wp2_with fail
      go_roundw
      case rel => exact ⟨60 + m, k1, n1, o1, k2, n2, o2, s1, s2, 2, by omega, rfl, rfl, ⟨f1, f2, f3⟩, ⟨g1, g2, g3⟩, HX3⟩
      case measure => simp [intOf]
    · go_wp2_with fail
      go_roundw
      case rel => exact ⟨60 + m, k1, n1, o1, k2, n2, o2, s1, s2, 3, by omega, rfl, rfl, ⟨f1, f2, f3⟩, ⟨g1, g2, g3⟩, HX3⟩
      case measure => simp [intOf]
end Go.Proofs.Yteifmjhkedhomaa
