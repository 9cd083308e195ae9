/- some: the walk. -/
import Derived.Test.YteifmjhkedhomaaDoorVm
import Derived.Test.YteifmjhkedhomaaDoorMod
namespace Go.Proofs.YteifmjhkedhomaaDoor
open Go.RowKit
set_option linter.unusedVariables false
attribute [local go_sem] ByteArray.mk_append_mk bs_get bs_cut bs_end conv1 conv2

theorem mod_is (v n r : Int) (H : Hid (modV v n = r)) (w : World) (hn : 0 < n) (hn2 : n ≤ 9223372036854775807) : Calls Tryd.prog 8 #[.int .i64 v, .int .i64 n] w fun e w' => e = .returned (.int .i64 r) ∧ w = w' := by
  rw [← H.out]; exact mod_any v n w hn hn2
theorem ret_some (tmps : Array Value) (w : World) (b : Nat) (c0 c1 c2 c3 : Value) (h2 : tmps.getD 2 undef = .pointer (some ⟨b, 0, none⟩)) (hb : w.heap[b]? = some (.cells #[c0, c1, c2, c3] 24 (0, 0))) :
    (results Tryd.f9 tmps).run Tryd.prog w = .ok (.agg #[c0, c1, c2, c3]) w := by
  obtain ⟨e0, e1, e2, e3⟩ := cells4 hb
  have h2' : tmps[2]?.getD undef = .pointer (some ⟨b, 0, none⟩) := by rw [← h2]; simp
  simp [results]
  go_simp
/-- Some value, within the bounds. -/
def SomePost (w : World) (e : Ending) (w' : World) : Prop := ∃ (a b : Int) (t : List UInt8) (c : Int), e = .returned (valV a b t c) ∧ 0 ≤ b ∧ b ≤ 18446744073709551615 ∧ t.length ≤ 140737488355328 ∧ Below w.heap.size w w'
set_option maxRecDepth 100000 in
set_option maxHeartbeats 2000000 in
theorem some_0 (k n o : Int) (s : List UInt8) (w : World) (hs : s.length ≤ 140737488355328) (hn0 : 0 ≤ n) (hn1 : n ≤ 18446744073709551615) (H9 : Hid (modV k 9 = 0)) : Calls Tryd.prog 9 #[valV k n s o] w (SomePost w) := by
  have HA := Lib.hid (CAt.start w k n s o)
  (obtain ⟨b0, b1, b2, b3⟩ := HA.out.1.cells)
  go_enter Tryd.func9, Tryd.ntmps9
  go_wp2_with fail
  ((with_reducible refine (mod_is k 9 0 H9 _ (by omega) (by omega)).mono ?_))
  rintro e wx ⟨rfl, rfl⟩
  go_wp2_with fail
  ((with_reducible refine (number_any n _).mono ?_))
  rintro e wx ⟨rfl, hb⟩
  (have HA2 := HA; clear HA; have HA := Lib.hid (HA2.out.below hb); clear HA2 hb b0 b1 b2 b3; obtain ⟨b0, b1, b2, b3⟩ := HA.out.1.cells)
  (have hn := HA.out.2; obtain ⟨c0, c1, c2, c3⟩ := cells4 hn; have f0 := free3 hn 0; have f1 := free3 hn 1; have f2 := free3 hn 2; have f3 := free3 hn 3; clear hn)
  go_wp2_with fail
  exact bodyPost_ret (ret_some _ _ _ _ _ _ _ rfl (put4 HA.out.2 _ _ _ _)) rfl ⟨_, _, _, _, rfl, by omega, by omega, by first | (rw [List.length_take]; omega) | (simp; done) | omega, bel4 HA.out.1.2 (by omega) _ _ _ _⟩
set_option maxRecDepth 100000 in
set_option maxHeartbeats 2000000 in
theorem some_1 (k n o : Int) (s : List UInt8) (w : World) (hs : s.length ≤ 140737488355328) (hn0 : 0 ≤ n) (hn1 : n ≤ 18446744073709551615) (H9 : Hid (modV k 9 = 1)) : Calls Tryd.prog 9 #[valV k n s o] w (SomePost w) := by
  have HA := Lib.hid (CAt.start w k n s o)
  (obtain ⟨b0, b1, b2, b3⟩ := HA.out.1.cells)
  go_enter Tryd.func9, Tryd.ntmps9
  go_wp2_with fail
  ((with_reducible refine (mod_is k 9 1 H9 _ (by omega) (by omega)).mono ?_))
  rintro e wx ⟨rfl, rfl⟩
  go_wp2_with fail
  ((with_reducible refine (number_any n _).mono ?_))
  rintro e wx ⟨rfl, hb⟩
  (have HA2 := HA; clear HA; have HA := Lib.hid (HA2.out.below hb); clear HA2 hb b0 b1 b2 b3; obtain ⟨b0, b1, b2, b3⟩ := HA.out.1.cells)
  (have hn := HA.out.2; obtain ⟨c0, c1, c2, c3⟩ := cells4 hn; have f0 := free3 hn 0; have f1 := free3 hn 1; have f2 := free3 hn 2; have f3 := free3 hn 3; clear hn)
  go_wp2_with fail
  exact bodyPost_ret (ret_some _ _ _ _ _ _ _ rfl (put4 HA.out.2 _ _ _ _)) rfl ⟨_, _, _, _, rfl, by omega, by omega, by first | (rw [List.length_take]; omega) | (simp; done) | omega, bel4 HA.out.1.2 (by omega) _ _ _ _⟩
set_option maxRecDepth 100000 in
set_option maxHeartbeats 2000000 in
theorem some_2 (k n o : Int) (s : List UInt8) (w : World) (hs : s.length ≤ 140737488355328) (hn0 : 0 ≤ n) (hn1 : n ≤ 18446744073709551615) (H9 : Hid (modV k 9 = 2)) : Calls Tryd.prog 9 #[valV k n s o] w (SomePost w) := by
  have HA := Lib.hid (CAt.start w k n s o)
  (obtain ⟨b0, b1, b2, b3⟩ := HA.out.1.cells)
  go_enter Tryd.func9, Tryd.ntmps9
  go_wp2_with fail
  ((with_reducible refine (mod_is k 9 2 H9 _ (by omega) (by omega)).mono ?_))
  rintro e wx ⟨rfl, rfl⟩
  clear b0 b1 b2 b3
  go_wp2_with fail
  exact bodyPost_ret (ret_some _ _ _ _ _ _ _ rfl (heap_alloc2_new _ _ _)) rfl ⟨_, _, _, _, rfl, by omega, by omega, by first | (rw [List.length_take]; omega) | (simp; done) | omega, ((Below.refl _ _).alloc (Nat.le_refl _) _).alloc (by simp) _⟩
set_option maxRecDepth 100000 in
set_option maxHeartbeats 2000000 in
theorem some_3 (k n o : Int) (s : List UInt8) (w : World) (hs : s.length ≤ 140737488355328) (hn0 : 0 ≤ n) (hn1 : n ≤ 18446744073709551615) (H9 : Hid (modV k 9 = 3)) : Calls Tryd.prog 9 #[valV k n s o] w (SomePost w) := by
  have HA := Lib.hid (CAt.start w k n s o)
  (obtain ⟨b0, b1, b2, b3⟩ := HA.out.1.cells)
  go_enter Tryd.func9, Tryd.ntmps9
  go_wp2_with fail
  ((with_reducible refine (mod_is k 9 3 H9 _ (by omega) (by omega)).mono ?_))
  rintro e wx ⟨rfl, rfl⟩
  clear b0 b1 b2 b3
  go_wp2_with fail
  exact bodyPost_ret (ret_some _ _ _ _ _ _ _ rfl (heap_alloc2_new _ _ _)) rfl ⟨_, _, _, _, rfl, by omega, by omega, by first | (rw [List.length_take]; omega) | (simp; done) | omega, ((Below.refl _ _).alloc (Nat.le_refl _) _).alloc (by simp) _⟩
set_option maxRecDepth 100000 in
set_option maxHeartbeats 2000000 in
theorem some_7 (k n o : Int) (s : List UInt8) (w : World) (hs : s.length ≤ 140737488355328) (hn0 : 0 ≤ n) (hn1 : n ≤ 18446744073709551615) (H9 : Hid (modV k 9 = 7)) : Calls Tryd.prog 9 #[valV k n s o] w (SomePost w) := by
  have HA := Lib.hid (CAt.start w k n s o)
  (obtain ⟨b0, b1, b2, b3⟩ := HA.out.1.cells)
  go_enter Tryd.func9, Tryd.ntmps9
  go_wp2_with fail
  ((with_reducible refine (mod_is k 9 7 H9 _ (by omega) (by omega)).mono ?_))
  rintro e wx ⟨rfl, rfl⟩
  clear b0 b1 b2 b3
  go_wp2_with fail
  exact bodyPost_ret (ret_some _ _ _ _ _ _ _ rfl (heap_alloc2_new _ _ _)) rfl ⟨_, _, _, _, rfl, by omega, by omega, by first | (rw [List.length_take]; omega) | (simp; done) | omega, ((Below.refl _ _).alloc (Nat.le_refl _) _).alloc (by simp) _⟩
set_option maxRecDepth 100000 in
set_option maxHeartbeats 2000000 in
theorem some_8 (k n o : Int) (s : List UInt8) (w : World) (hs : s.length ≤ 140737488355328) (hn0 : 0 ≤ n) (hn1 : n ≤ 18446744073709551615) (H9 : Hid (modV k 9 = 8)) : Calls Tryd.prog 9 #[valV k n s o] w (SomePost w) := by
  have HA := Lib.hid (CAt.start w k n s o)
  (obtain ⟨b0, b1, b2, b3⟩ := HA.out.1.cells)
  go_enter Tryd.func9, Tryd.ntmps9
  go_wp2_with fail
  ((with_reducible refine (mod_is k 9 8 H9 _ (by omega) (by omega)).mono ?_))
  rintro e wx ⟨rfl, rfl⟩
  clear b0 b1 b2 b3
  go_wp2_with fail
  exact bodyPost_ret (ret_some _ _ _ _ _ _ _ rfl (heap_alloc2_new _ _ _)) rfl ⟨_, _, _, _, rfl, by omega, by omega, by first | (rw [List.length_take]; omega) | (simp; done) | omega, ((Below.refl _ _).alloc (Nat.le_refl _) _).alloc (by simp) _⟩
theorem mid3 (w : World) (a b c : Obj) : (((w.alloc a).alloc b).alloc c).heap[w.heap.size + 1]? = some b := by
  have e1 := heap_alloc_new (w.alloc a) b
  have e2 := blk_alloc e1 c
  simpa using e2
set_option maxRecDepth 100000 in
set_option maxHeartbeats 2000000 in
theorem some_4_0 (k n o : Int) (s : List UInt8) (w : World) (hs : s.length ≤ 140737488355328) (hn0 : 0 ≤ n) (hn1 : n ≤ 18446744073709551615) (H9 : Hid (modV k 9 = 4)) (H8 : Hid (modV o 8 = 0)) : Calls Tryd.prog 9 #[valV k n s o] w (SomePost w) := by
  have HA := Lib.hid (CAt.start w k n s o)
  (obtain ⟨b0, b1, b2, b3⟩ := HA.out.1.cells)
  go_enter Tryd.func9, Tryd.ntmps9
  go_wp2_with fail
  ((with_reducible refine (mod_is k 9 4 H9 _ (by omega) (by omega)).mono ?_))
  rintro e wx ⟨rfl, rfl⟩
  clear b0 b1 b2 b3
  go_wp2_with fail
  ((with_reducible refine (mod_is o 8 0 H8 _ (by omega) (by omega)).mono ?_))
  rintro e wx ⟨rfl, rfl⟩
  go_wp2_with fail
  exact bodyPost_ret (ret_some _ _ _ _ _ _ _ rfl (mid3 _ _ _ _)) rfl ⟨_, _, _, _, rfl, by omega, by omega, by first | (rw [List.length_take]; omega) | (simp; done) | omega, (((Below.refl _ _).alloc (Nat.le_refl _) _).alloc (by simp) _).alloc (by simp; omega) _⟩
set_option maxRecDepth 100000 in
set_option maxHeartbeats 2000000 in
theorem some_4_1 (k n o : Int) (s : List UInt8) (w : World) (hs : s.length ≤ 140737488355328) (hn0 : 0 ≤ n) (hn1 : n ≤ 18446744073709551615) (H9 : Hid (modV k 9 = 4)) (H8 : Hid (modV o 8 = 1)) : Calls Tryd.prog 9 #[valV k n s o] w (SomePost w) := by
  have HA := Lib.hid (CAt.start w k n s o)
  (obtain ⟨b0, b1, b2, b3⟩ := HA.out.1.cells)
  go_enter Tryd.func9, Tryd.ntmps9
  go_wp2_with fail
  ((with_reducible refine (mod_is k 9 4 H9 _ (by omega) (by omega)).mono ?_))
  rintro e wx ⟨rfl, rfl⟩
  clear b0 b1 b2 b3
  go_wp2_with fail
  ((with_reducible refine (mod_is o 8 1 H8 _ (by omega) (by omega)).mono ?_))
  rintro e wx ⟨rfl, rfl⟩
  go_wp2_with fail
  exact bodyPost_ret (ret_some _ _ _ _ _ _ _ rfl (mid3 _ _ _ _)) rfl ⟨_, _, _, _, rfl, by omega, by omega, by first | (rw [List.length_take]; omega) | (simp; done) | omega, (((Below.refl _ _).alloc (Nat.le_refl _) _).alloc (by simp) _).alloc (by simp; omega) _⟩
set_option maxRecDepth 100000 in
set_option maxHeartbeats 2000000 in
theorem some_4_2 (k n o : Int) (s : List UInt8) (w : World) (hs : s.length ≤ 140737488355328) (hn0 : 0 ≤ n) (hn1 : n ≤ 18446744073709551615) (H9 : Hid (modV k 9 = 4)) (H8 : Hid (modV o 8 = 2)) : Calls Tryd.prog 9 #[valV k n s o] w (SomePost w) := by
  have HA := Lib.hid (CAt.start w k n s o)
  (obtain ⟨b0, b1, b2, b3⟩ := HA.out.1.cells)
  go_enter Tryd.func9, Tryd.ntmps9
  go_wp2_with fail
  ((with_reducible refine (mod_is k 9 4 H9 _ (by omega) (by omega)).mono ?_))
  rintro e wx ⟨rfl, rfl⟩
  clear b0 b1 b2 b3
  go_wp2_with fail
  ((with_reducible refine (mod_is o 8 2 H8 _ (by omega) (by omega)).mono ?_))
  rintro e wx ⟨rfl, rfl⟩
  go_wp2_with fail
  exact bodyPost_ret (ret_some _ _ _ _ _ _ _ rfl (mid3 _ _ _ _)) rfl ⟨_, _, _, _, rfl, by omega, by omega, by first | (rw [List.length_take]; omega) | (simp; done) | omega, (((Below.refl _ _).alloc (Nat.le_refl _) _).alloc (by simp) _).alloc (by simp; omega) _⟩
set_option maxRecDepth 100000 in
set_option maxHeartbeats 2000000 in
theorem some_4_3 (k n o : Int) (s : List UInt8) (w : World) (hs : s.length ≤ 140737488355328) (hn0 : 0 ≤ n) (hn1 : n ≤ 18446744073709551615) (H9 : Hid (modV k 9 = 4)) (H8 : Hid (modV o 8 = 3)) : Calls Tryd.prog 9 #[valV k n s o] w (SomePost w) := by
  have HA := Lib.hid (CAt.start w k n s o)
  (obtain ⟨b0, b1, b2, b3⟩ := HA.out.1.cells)
  go_enter Tryd.func9, Tryd.ntmps9
  go_wp2_with fail
  ((with_reducible refine (mod_is k 9 4 H9 _ (by omega) (by omega)).mono ?_))
  rintro e wx ⟨rfl, rfl⟩
  clear b0 b1 b2 b3
  go_wp2_with fail
  ((with_reducible refine (mod_is o 8 3 H8 _ (by omega) (by omega)).mono ?_))
  rintro e wx ⟨rfl, rfl⟩
  go_wp2_with fail
  exact bodyPost_ret (ret_some _ _ _ _ _ _ _ rfl (mid3 _ _ _ _)) rfl ⟨_, _, _, _, rfl, by omega, by omega, by first | (rw [List.length_take]; omega) | (simp; done) | omega, (((Below.refl _ _).alloc (Nat.le_refl _) _).alloc (by simp) _).alloc (by simp; omega) _⟩
set_option maxRecDepth 100000 in
set_option maxHeartbeats 2000000 in
theorem some_4_4 (k n o : Int) (s : List UInt8) (w : World) (hs : s.length ≤ 140737488355328) (hn0 : 0 ≤ n) (hn1 : n ≤ 18446744073709551615) (H9 : Hid (modV k 9 = 4)) (H8 : Hid (modV o 8 = 4)) : Calls Tryd.prog 9 #[valV k n s o] w (SomePost w) := by
  have HA := Lib.hid (CAt.start w k n s o)
  (obtain ⟨b0, b1, b2, b3⟩ := HA.out.1.cells)
  go_enter Tryd.func9, Tryd.ntmps9
  go_wp2_with fail
  ((with_reducible refine (mod_is k 9 4 H9 _ (by omega) (by omega)).mono ?_))
  rintro e wx ⟨rfl, rfl⟩
  clear b0 b1 b2 b3
  go_wp2_with fail
  ((with_reducible refine (mod_is o 8 4 H8 _ (by omega) (by omega)).mono ?_))
  rintro e wx ⟨rfl, rfl⟩
  go_wp2_with fail
  exact bodyPost_ret (ret_some _ _ _ _ _ _ _ rfl (mid3 _ _ _ _)) rfl ⟨_, _, _, _, rfl, by omega, by omega, by first | (rw [List.length_take]; omega) | (simp; done) | omega, (((Below.refl _ _).alloc (Nat.le_refl _) _).alloc (by simp) _).alloc (by simp; omega) _⟩
set_option maxRecDepth 100000 in
set_option maxHeartbeats 2000000 in
theorem some_4_5 (k n o : Int) (s : List UInt8) (w : World) (hs : s.length ≤ 140737488355328) (hn0 : 0 ≤ n) (hn1 : n ≤ 18446744073709551615) (H9 : Hid (modV k 9 = 4)) (H8 : Hid (modV o 8 = 5)) : Calls Tryd.prog 9 #[valV k n s o] w (SomePost w) := by
  have HA := Lib.hid (CAt.start w k n s o)
  (obtain ⟨b0, b1, b2, b3⟩ := HA.out.1.cells)
  go_enter Tryd.func9, Tryd.ntmps9
  go_wp2_with fail
  ((with_reducible refine (mod_is k 9 4 H9 _ (by omega) (by omega)).mono ?_))
  rintro e wx ⟨rfl, rfl⟩
  clear b0 b1 b2 b3
  go_wp2_with fail
  ((with_reducible refine (mod_is o 8 5 H8 _ (by omega) (by omega)).mono ?_))
  rintro e wx ⟨rfl, rfl⟩
  go_wp2_with fail
  exact bodyPost_ret (ret_some _ _ _ _ _ _ _ rfl (mid3 _ _ _ _)) rfl ⟨_, _, _, _, rfl, by omega, by omega, by first | (rw [List.length_take]; omega) | (simp; done) | omega, (((Below.refl _ _).alloc (Nat.le_refl _) _).alloc (by simp) _).alloc (by simp; omega) _⟩
set_option maxRecDepth 100000 in
set_option maxHeartbeats 2000000 in
theorem some_4_6 (k n o : Int) (s : List UInt8) (w : World) (hs : s.length ≤ 140737488355328) (hn0 : 0 ≤ n) (hn1 : n ≤ 18446744073709551615) (H9 : Hid (modV k 9 = 4)) (H8 : Hid (modV o 8 = 6)) : Calls Tryd.prog 9 #[valV k n s o] w (SomePost w) := by
  have HA := Lib.hid (CAt.start w k n s o)
  (obtain ⟨b0, b1, b2, b3⟩ := HA.out.1.cells)
  go_enter Tryd.func9, Tryd.ntmps9
  go_wp2_with fail
  ((with_reducible refine (mod_is k 9 4 H9 _ (by omega) (by omega)).mono ?_))
  rintro e wx ⟨rfl, rfl⟩
  clear b0 b1 b2 b3
  go_wp2_with fail
  ((with_reducible refine (mod_is o 8 6 H8 _ (by omega) (by omega)).mono ?_))
  rintro e wx ⟨rfl, rfl⟩
  go_wp2_with fail
  exact bodyPost_ret (ret_some _ _ _ _ _ _ _ rfl (mid3 _ _ _ _)) rfl ⟨_, _, _, _, rfl, by omega, by omega, by first | (rw [List.length_take]; omega) | (simp; done) | omega, (((Below.refl _ _).alloc (Nat.le_refl _) _).alloc (by simp) _).alloc (by simp; omega) _⟩
set_option maxRecDepth 100000 in
set_option maxHeartbeats 2000000 in
theorem some_4_7 (k n o : Int) (s : List UInt8) (w : World) (hs : s.length ≤ 140737488355328) (hn0 : 0 ≤ n) (hn1 : n ≤ 18446744073709551615) (H9 : Hid (modV k 9 = 4)) (H8 : Hid (modV o 8 = 7)) : Calls Tryd.prog 9 #[valV k n s o] w (SomePost w) := by
  have HA := Lib.hid (CAt.start w k n s o)
  (obtain ⟨b0, b1, b2, b3⟩ := HA.out.1.cells)
  go_enter Tryd.func9, Tryd.ntmps9
  go_wp2_with fail
  ((with_reducible refine (mod_is k 9 4 H9 _ (by omega) (by omega)).mono ?_))
  rintro e wx ⟨rfl, rfl⟩
  clear b0 b1 b2 b3
  go_wp2_with fail
  ((with_reducible refine (mod_is o 8 7 H8 _ (by omega) (by omega)).mono ?_))
  rintro e wx ⟨rfl, rfl⟩
  go_wp2_with fail
  exact bodyPost_ret (ret_some _ _ _ _ _ _ _ rfl (mid3 _ _ _ _)) rfl ⟨_, _, _, _, rfl, by omega, by omega, by first | (rw [List.length_take]; omega) | (simp; done) | omega, (((Below.refl _ _).alloc (Nat.le_refl _) _).alloc (by simp) _).alloc (by simp; omega) _⟩
set_option maxRecDepth 100000 in
set_option maxHeartbeats 2000000 in
theorem some_5 (k n o : Int) (s : List UInt8) (w : World) (hs : s.length ≤ 140737488355328) (hn0 : 0 ≤ n) (hn1 : n ≤ 18446744073709551615) (H9 : Hid (modV k 9 = 5)) (x : Int) (HX : Hid (modV o 7 = x)) (hx0 : 0 ≤ x) (hx1 : x < 7) : Calls Tryd.prog 9 #[valV k n s o] w (SomePost w) := by
  have HA := Lib.hid (CAt.start w k n s o)
  (obtain ⟨b0, b1, b2, b3⟩ := HA.out.1.cells)
  go_enter Tryd.func9, Tryd.ntmps9
  go_wp2_with fail
  ((with_reducible refine (mod_is k 9 5 H9 _ (by omega) (by omega)).mono ?_))
  rintro e wx ⟨rfl, rfl⟩
  go_upto_region 13 with fail
  clear b0 b1 b2 b3
  have k1 : ∀ x, Grows _ x → x.cell? ⟨w.heap.size, 1, none⟩ = some (.int .u64 n) := fun x h => (HA.out.below h).1.cells.2.1
  have k2 : ∀ x, Grows _ x → x.cell? ⟨w.heap.size, 2, none⟩ = some (.string ⟨s.toArray⟩) := fun x h => (HA.out.below h).1.cells.2.2.1
  have k3 : ∀ x, Grows _ x → x.cell? ⟨w.heap.size, 3, none⟩ = some (.int .i64 o) := fun x h => (HA.out.below h).1.cells.2.2.2
  refine wp_region_plan (Grows _) 16 [.reads [0, 1, 4, 5, 6, 7, 8, 9, 10, 11, 12, 13, 14], .act 2, .reads [3, 15], .act 16] (by kernel_rfl) (by kernel_rfl) (by kernel_rfl) (by kernel_rfl) (by kernel_rfl) (fun _ _ d _ _ h => by cases d <;> exact h) (Grows.self _) ?_
  refine wpPlan_reads ?_
  simp only [pickOps, List.drop_succ_cons, List.drop_zero, List.take_succ_cons, List.take_zero, List.cons_append, List.nil_append]
  repeat (go_big_quiet_step (first | (intro hb; rw [k1 _ hb]; exact ⟨rfl, rfl⟩) | (intro hb; rw [k2 _ hb]; exact ⟨rfl, rfl⟩) | (intro hb; rw [k3 _ hb]; exact ⟨rfl, rfl⟩)))
  refine wpQuiet_nil ?_
  clear k1 k2 k3
  refine wpPlan_act rfl ?_
  simp only [pickOps, List.drop_succ_cons, List.drop_zero, List.take_succ_cons, List.take_zero, List.cons_append, List.nil_append]
  go_wp2_with fail
  ((with_reducible refine (mod_is o 7 x HX _ (by omega) (by omega)).mono ?_))
  rintro e wx ⟨rfl, rfl⟩
  go_wp2_with fail
  refine ⟨fun _ => Grows.self _, ?_⟩
  refine wpPlan_reads ?_
  simp only [pickOps, List.drop_succ_cons, List.drop_zero, List.take_succ_cons, List.take_zero, List.cons_append, List.nil_append]
  repeat (go_big_quiet_step (fail))
  refine wpQuiet_nil ?_
  refine wpPlan_act rfl ?_
  simp only [pickOps, List.drop_succ_cons, List.drop_zero, List.take_succ_cons, List.take_zero, List.cons_append, List.nil_append]
  go_wp2_with fail
  refine ⟨fun h => absurd h (by decide), wpPlan_nil ?_⟩
  go_wp2_with fail
  exact bodyPost_ret (ret_some _ _ _ _ _ _ _ rfl (heap_alloc2_new _ _ _)) rfl ⟨_, _, _, _, rfl, by omega, by omega, by first | (rw [List.length_take]; omega) | (simp; done) | omega, ((Below.refl _ _).alloc (Nat.le_refl _) _).alloc (by simp) _ |>.drew⟩
set_option maxRecDepth 100000 in
set_option maxHeartbeats 2000000 in
theorem some_6 (k n o : Int) (s : List UInt8) (w : World) (hs : s.length ≤ 140737488355328) (hn0 : 0 ≤ n) (hn1 : n ≤ 18446744073709551615) (H9 : Hid (modV k 9 = 6)) (x : Int) (HX : Hid (modV o 2 = x)) (hx0 : 0 ≤ x) (hx1 : x < 2) : Calls Tryd.prog 9 #[valV k n s o] w (SomePost w) := by
  have HA := Lib.hid (CAt.start w k n s o)
  (obtain ⟨b0, b1, b2, b3⟩ := HA.out.1.cells)
  go_enter Tryd.func9, Tryd.ntmps9
  go_wp2_with fail
  ((with_reducible refine (mod_is k 9 6 H9 _ (by omega) (by omega)).mono ?_))
  rintro e wx ⟨rfl, rfl⟩
  go_upto_region 15 with fail
  clear b0 b1 b2 b3
  have k1 : ∀ x, Grows _ x → x.cell? ⟨w.heap.size, 1, none⟩ = some (.int .u64 n) := fun x h => (HA.out.below h).1.cells.2.1
  have k2 : ∀ x, Grows _ x → x.cell? ⟨w.heap.size, 2, none⟩ = some (.string ⟨s.toArray⟩) := fun x h => (HA.out.below h).1.cells.2.2.1
  have k3 : ∀ x, Grows _ x → x.cell? ⟨w.heap.size, 3, none⟩ = some (.int .i64 o) := fun x h => (HA.out.below h).1.cells.2.2.2
  refine wp_region_plan (Grows _) 12 [.reads [0, 1, 4, 5, 6, 7, 8, 9, 10], .act 2, .reads [3, 11], .act 12] (by kernel_rfl) (by kernel_rfl) (by kernel_rfl) (by kernel_rfl) (by kernel_rfl) (fun _ _ d _ _ h => by cases d <;> exact h) (Grows.self _) ?_
  refine wpPlan_reads ?_
  simp only [pickOps, List.drop_succ_cons, List.drop_zero, List.take_succ_cons, List.take_zero, List.cons_append, List.nil_append]
  repeat (go_big_quiet_step (first | (intro hb; rw [k1 _ hb]; exact ⟨rfl, rfl⟩) | (intro hb; rw [k2 _ hb]; exact ⟨rfl, rfl⟩) | (intro hb; rw [k3 _ hb]; exact ⟨rfl, rfl⟩)))
  refine wpQuiet_nil ?_
  clear k1 k2 k3
  refine wpPlan_act rfl ?_
  simp only [pickOps, List.drop_succ_cons, List.drop_zero, List.take_succ_cons, List.take_zero, List.cons_append, List.nil_append]
  go_wp2_with fail
  ((with_reducible refine (mod_is o 2 x HX _ (by omega) (by omega)).mono ?_))
  rintro e wx ⟨rfl, rfl⟩
  go_wp2_with fail
  refine ⟨fun _ => Grows.self _, ?_⟩
  refine wpPlan_reads ?_
  simp only [pickOps, List.drop_succ_cons, List.drop_zero, List.take_succ_cons, List.take_zero, List.cons_append, List.nil_append]
  repeat (go_big_quiet_step (fail))
  refine wpQuiet_nil ?_
  refine wpPlan_act rfl ?_
  simp only [pickOps, List.drop_succ_cons, List.drop_zero, List.take_succ_cons, List.take_zero, List.cons_append, List.nil_append]
  go_wp2_with fail
  refine ⟨fun h => absurd h (by decide), wpPlan_nil ?_⟩
  go_wp2_with fail
  exact bodyPost_ret (ret_some _ _ _ _ _ _ _ rfl (heap_alloc2_new _ _ _)) rfl ⟨_, _, _, _, rfl, by omega, by omega, by first | (rw [List.length_take]; omega) | (simp; done) | omega, ((Below.refl _ _).alloc (Nat.le_refl _) _).alloc (by simp) _ |>.drew⟩
theorem some_any (k n o : Int) (s : List UInt8) (w : World) (hs : s.length ≤ 140737488355328) (hn0 : 0 ≤ n) (hn1 : n ≤ 18446744073709551615) : Calls Tryd.prog 9 #[valV k n s o] w (SomePost w) := by
  obtain ⟨r, hr⟩ : ∃ r, modV k 9 = r := ⟨_, rfl⟩
  have h1 := modV_nonneg k 9 (by omega)
  have h2 := modV_lt k 9 (by omega)
  rw [hr] at h1 h2
  have hc : r = 0 ∨ r = 1 ∨ r = 2 ∨ r = 3 ∨ r = 4 ∨ r = 5 ∨ r = 6 ∨ r = 7 ∨ r = 8 := by omega
  rcases hc with rfl | rfl | rfl | rfl | rfl | rfl | rfl | rfl | rfl
  · exact some_0 k n o s w hs hn0 hn1 (Lib.hid hr)
  · exact some_1 k n o s w hs hn0 hn1 (Lib.hid hr)
  · exact some_2 k n o s w hs hn0 hn1 (Lib.hid hr)
  · exact some_3 k n o s w hs hn0 hn1 (Lib.hid hr)
  · obtain ⟨q, hq⟩ : ∃ r, modV o 8 = r := ⟨_, rfl⟩
    have h3 := modV_nonneg o 8 (by omega)
    have h4 := modV_lt o 8 (by omega)
    rw [hq] at h3 h4
    have hc : q = 0 ∨ q = 1 ∨ q = 2 ∨ q = 3 ∨ q = 4 ∨ q = 5 ∨ q = 6 ∨ q = 7 := by omega
    rcases hc with rfl | rfl | rfl | rfl | rfl | rfl | rfl | rfl
    · exact some_4_0 k n o s w hs hn0 hn1 (Lib.hid hr) (Lib.hid hq)
    · exact some_4_1 k n o s w hs hn0 hn1 (Lib.hid hr) (Lib.hid hq)
    · exact some_4_2 k n o s w hs hn0 hn1 (Lib.hid hr) (Lib.hid hq)
    · exact some_4_3 k n o s w hs hn0 hn1 (Lib.hid hr) (Lib.hid hq)
    · exact some_4_4 k n o s w hs hn0 hn1 (Lib.hid hr) (Lib.hid hq)
    · exact some_4_5 k n o s w hs hn0 hn1 (Lib.hid hr) (Lib.hid hq)
    · exact some_4_6 k n o s w hs hn0 hn1 (Lib.hid hr) (Lib.hid hq)
    · exact some_4_7 k n o s w hs hn0 hn1 (Lib.hid hr) (Lib.hid hq)
  · exact some_5 k n o s w hs hn0 hn1 (Lib.hid hr) _ (Lib.hid rfl) (modV_nonneg o 7 (by omega)) (modV_lt o 7 (by omega))
  · exact some_6 k n o s w hs hn0 hn1 (Lib.hid hr) _ (Lib.hid rfl) (modV_nonneg o 2 (by omega)) (modV_lt o 2 (by omega))
  · exact some_7 k n o s w hs hn0 hn1 (Lib.hid hr)
  · exact some_8 k n o s w hs hn0 hn1 (Lib.hid hr)
end Go.Proofs.YteifmjhkedhomaaDoor
