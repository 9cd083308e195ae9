/- awake: the walk. -/
import Derived.Test.YteifmjhkedhomaaDoorVm
namespace Go.Proofs.YteifmjhkedhomaaDoor
open Go.RowKit
set_option linter.unusedVariables false
attribute [local go_sem] ByteArray.mk_append_mk bs_get bs_cut bs_end conv1 conv2

theorem bin_is (op k1 n1 o1 k2 n2 o2 : Int) (s1 s2 : List UInt8) (r : Value) (er : Int) (H : Hid (binV op k1 n1 s1 k2 n2 s2 = (r, er))) (w : World) (hs1 : s1.length ≤ 9223372036854774000) (hs2 : s2.length ≤ 9223372036854774000) (hn1 : 0 ≤ n1) (hn2 : 0 ≤ n2) (hm1 : n1 ≤ 18446744073709551615) (hm2 : n2 ≤ 18446744073709551615) : Calls Tryd.prog 16 #[.int .i64 op, valV k1 n1 s1 o1, valV k2 n2 s2 o2] w fun e w' => e = .returned (.tuple #[r, .int .i64 er]) ∧ Below w.heap.size w w' := by
  have h := bin_any op k1 n1 o1 k2 n2 o2 s1 s2 w hs1 hs2 hn1 hn2 hm1 hm2
  rw [H.out] at h
  exact h
theorem integer_is (k n o : Int) (s : List UInt8) (x er : Int) (H : Hid (intV k n s = (x, er))) (w : World) (hs : s.length ≤ 9223372036854775000) : Calls Tryd.prog 14 #[valV k n s o] w fun e w' => e = .returned (.tuple #[.int .u64 x, .int .i64 er]) ∧ Below w.heap.size w w' := by
  have h := integer_any k n o s w hs
  rw [H.out] at h
  exact h
theorem awake_i : intV 2 0 [49, 70, 122] = (31, 0) := by decide +kernel
theorem awake_b : binV 75 2 0 [97] 1 255 [] = (valV 2 0 [97, 48, 48, 48, 48, 48, 48, 48, 48, 48, 48, 48, 48, 48, 48, 70, 70] 0, 0) := by kernel_rfl
theorem awake_s : binV 68 1 1 [] 1 64 [] = (valV 1 0 [] 0, 0) := by kernel_rfl
set_option maxRecDepth 100000 in
set_option maxHeartbeats 2000000 in
theorem awake_any (w : World) : Calls Tryd.prog 10 #[] w fun e w' => e = .returned (.bool true) ∧ Below w.heap.size w w' := by
  go_enter Tryd.func10, Tryd.ntmps10
  go_wp2_with fail
  ((with_reducible refine (integer_is 2 0 0 [49, 70, 122] 31 0 (Lib.hid awake_i) _ (by simp)).mono ?_))
  rintro e w1 ⟨rfl, hb1⟩
  have HB1 := Lib.hid hb1
  clear hb1
  go_wp2_with fail
  ((with_reducible refine (number_any 255 _).mono ?_))
  rintro e w2 ⟨rfl, hb2⟩
  have HB2 := Lib.hid (bel_then HB1.out (Nat.le_refl _) hb2)
  clear hb2 HB1
  go_wp2_with fail
  ((with_reducible refine (bin_is 75 2 0 0 1 255 0 [97] [] _ _ (Lib.hid awake_b) _ (by simp) (by simp) (by omega) (by omega) (by omega) (by omega)).mono ?_))
  rintro e w3 ⟨rfl, hb3⟩
  have HB3 := Lib.hid (bel_then HB2.out (Nat.le_refl _) hb3)
  clear hb3 HB2
  go_wp2_with fail
  ((with_reducible refine (number_any 1 _).mono ?_))
  rintro e w4 ⟨rfl, hb4⟩
  have HZ4 := Lib.hid (bel_alloc hb4).2
  have HB4 := Lib.hid (bel_then HB3.out (Nat.le_refl _) (bel_alloc hb4).1)
  clear hb4 HB3
  go_wp2_with fail
  ((with_reducible refine (number_any 64 _).mono ?_))
  rintro e w5 ⟨rfl, hb5⟩
  have HZ5 := Lib.hid (blk_below HZ4.out hb5)
  have HB5 := Lib.hid (bel_then HB4.out (Nat.le_refl _) hb5)
  clear hb5 HB4 HZ4
  go_wp2_with fail
  ((with_reducible refine (bin_is 68 1 1 0 1 64 0 [] [] _ _ (Lib.hid awake_s) _ (by simp) (by simp) (by omega) (by omega) (by omega) (by omega)).mono ?_))
  rintro e w6 ⟨rfl, hb6⟩
  have HZ6 := Lib.hid (blk_below HZ5.out hb6)
  have HB6 := Lib.hid (bel_then HB5.out (Nat.le_refl _) hb6)
  clear hb6 HB5 HZ5
  go_upto_region 4 with fail
  have a0 : ∀ x, Grows _ x → _ := fun x (h : Grows (w6.alloc (vObj 1 0 [] 0)) x) => (cells4 (blk_below (blk_alloc HZ6.out _) h)).1
  have a1 : ∀ x, Grows _ x → _ := fun x (h : Grows (w6.alloc (vObj 1 0 [] 0)) x) => (cells4 (blk_below (blk_alloc HZ6.out _) h)).2.1
  have a2 : ∀ x, Grows _ x → _ := fun x (h : Grows (w6.alloc (vObj 1 0 [] 0)) x) => (cells4 (blk_below (blk_alloc HZ6.out _) h)).2.2.1
  have a3 : ∀ x, Grows _ x → _ := fun x (h : Grows (w6.alloc (vObj 1 0 [] 0)) x) => (cells4 (blk_below (blk_alloc HZ6.out _) h)).2.2.2
  have b0 : ∀ x, Grows _ x → _ := fun x (h : Grows (w6.alloc (vObj 1 0 [] 0)) x) => (cells4 (blk_below (heap_alloc_new w6 (vObj 1 0 [] 0)) h)).1
  have b1 : ∀ x, Grows _ x → _ := fun x (h : Grows (w6.alloc (vObj 1 0 [] 0)) x) => (cells4 (blk_below (heap_alloc_new w6 (vObj 1 0 [] 0)) h)).2.1
  have b2 : ∀ x, Grows _ x → _ := fun x (h : Grows (w6.alloc (vObj 1 0 [] 0)) x) => (cells4 (blk_below (heap_alloc_new w6 (vObj 1 0 [] 0)) h)).2.2.1
  have b3 : ∀ x, Grows _ x → _ := fun x (h : Grows (w6.alloc (vObj 1 0 [] 0)) x) => (cells4 (blk_below (heap_alloc_new w6 (vObj 1 0 [] 0)) h)).2.2.2
  refine wp_region_plan (Grows _) 24 [.reads [0, 1, 2, 3, 4, 5, 6, 7, 8, 9, 10, 11, 12, 13, 14, 15, 16], .act 17, .reads [18, 19, 20, 21, 22, 23], .act 24] (by kernel_rfl) (by kernel_rfl) (by kernel_rfl) (by kernel_rfl) (by kernel_rfl) (fun _ _ d _ _ h => by cases d <;> exact h) (Grows.self _) ?_
  refine wpPlan_reads ?_
  simp only [pickOps, List.drop_succ_cons, List.drop_zero, List.take_succ_cons, List.take_zero, List.cons_append, List.nil_append]
  repeat (go_big_quiet_step (first | (intro hb; rw [a0 _ hb]; simp only [Result.andThen]; rw [a1 _ hb]; simp only; rw [a2 _ hb]; simp only; rw [a3 _ hb]; exact ⟨rfl, rfl⟩) | (intro hb; rw [b0 _ hb]; simp only [Result.andThen]; rw [b1 _ hb]; simp only; rw [b2 _ hb]; simp only; rw [b3 _ hb]; exact ⟨rfl, rfl⟩)))
  refine wpQuiet_nil ?_
  clear a0 a1 a2 a3 b0 b1 b2 b3
  refine wpPlan_act rfl ?_
  simp only [pickOps, List.drop_succ_cons, List.drop_zero, List.take_succ_cons, List.take_zero, List.cons_append, List.nil_append]
  go_wp2_with fail
  ((with_reducible refine (number_any 0 _).mono ?_))
  rintro e w7 ⟨rfl, hb7⟩
  have HG := Lib.hid ((Grows.self _).trans hb7)
  clear hb7
  go_wp2_with fail
  refine ⟨fun _ => HG.out, ?_⟩
  refine wpPlan_reads ?_
  simp only [pickOps, List.drop_succ_cons, List.drop_zero, List.take_succ_cons, List.take_zero, List.cons_append, List.nil_append]
  repeat (go_big_quiet_step (fail))
  refine wpQuiet_nil ?_
  refine wpPlan_act rfl ?_
  simp only [pickOps, List.drop_succ_cons, List.drop_zero, List.take_succ_cons, List.take_zero, List.cons_append, List.nil_append]
  go_wp2_with fail
  refine ⟨fun h => absurd h (by decide), wpPlan_nil ?_⟩
  go_wp2_with fail
  go_ret
  exact ⟨rfl, bel_then (HB6.out.alloc HB6.out.size _) (Nat.le_refl _) HG.out⟩
end Go.Proofs.YteifmjhkedhomaaDoor
