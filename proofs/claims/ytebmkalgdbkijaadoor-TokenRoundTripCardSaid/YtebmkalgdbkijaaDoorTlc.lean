/- some: the walk. -/
import Derived.Test.YtebmkalgdbkijaaDoorTlb
namespace Go.Proofs.YtebmkalgdbkijaaDoor
open Go.RowKit
set_option linter.unusedVariables false
set_option linter.unusedSimpArgs false
attribute [local go_sem] ByteArray.mk_append_mk bs_get bs_cut bs_end

def names1 : List (List UInt8) := [[92], [94, 94], [65], [92, 95, 83, 66, 46, 67, 49], [94, 88, 95, 57, 90]]
def names2 : List (List UInt8) := [[78, 97, 109, 101], [120], [73, 102], [76, 111, 99, 97, 108, 48], [95, 97, 66, 57]]
/-- A token turned into a valid one, usually. -/
def someT (t : TokI) : TokI :=
  if modV t.kind 7 = 0 then ⟨1, 0, names1.getD (modV t.pos 5).toNat [], 0⟩
  else if modV t.kind 7 = 1 then ⟨2, 0, names2.getD (modV t.pos 5).toNat [], 0⟩
  else if modV t.kind 7 = 2 then ⟨3, t.num, [], 0⟩
  else if modV t.kind 7 = 3 then ⟨4, 0, t.str.take 255, 0⟩
  else if modV t.kind 7 = 4 then ⟨5 + modV t.pos 5, 0, [], 0⟩
  else t
theorem bel_new2 (w : World) (o o' : Obj) : Below w.heap.size w ((w.alloc o).alloc o') := ((Below.refl w.heap.size w).alloc (Nat.le_refl _) o).alloc (by simp) o'
theorem bel_new3 (w : World) (o o' o'' : Obj) : Below w.heap.size w (((w.alloc o).alloc o').alloc o'') := (bel_new2 w o o').alloc (by simp; omega) o''
theorem five {M : Int} (h0 : 0 ≤ M) (h5 : M < 5) : M = 0 ∨ M = 1 ∨ M = 2 ∨ M = 3 ∨ M = 4 := by omega
theorem seven {M : Int} (h0 : 0 ≤ M) (h5 : M < 7) : M = 0 ∨ M = 1 ∨ M = 2 ∨ M = 3 ∨ M = 4 ∨ M = 5 ∨ M = 6 := by omega
set_option maxRecDepth 100000 in
set_option maxHeartbeats 8000000 in
theorem some_name0 (k n d : Int) (s : List UInt8) (w : World) (hk : modV k 7 = 0) (hd : modV d 5 = 0) : Calls Tryd.prog 10 #[tokV k n s d] w fun e w' => e = .returned (someT ⟨k, n, s, d⟩).val ∧ Below w.heap.size w w' := by
  have HM := Lib.hid (mod_any k 7)
  have HN := Lib.hid (mod_any d 5)
  have e : someT ⟨k, n, s, d⟩ = ⟨1, 0, [92], 0⟩ := by unfold someT; rw [if_pos hk, hd]; rfl
  rw [e]
  rw [hk] at HM
  rw [hd] at HN
  have HB := Lib.hid (bel_new3 w)
  clear hk hd e
  unfold tokV
  go_enter Tryd.func10, Tryd.ntmps10
  go_wp2_with fail
  ((with_reducible refine (HM.out _ (by decide) (by decide)).mono ?_))
  rintro e w2 ⟨rfl, rfl⟩
  go_wp2_with fail
  ((with_reducible refine (HN.out _ (by decide) (by decide)).mono ?_))
  rintro e w2 ⟨rfl, rfl⟩
  go_wp2_with fail
  exact bodyPost_ret (v := TokI.val ⟨1, 0, [92], 0⟩) (by simp [results, Tryd.results10, go_sem, TokI.val, tokV]) rfl ⟨rfl, HB.out _ _ _⟩
set_option maxRecDepth 100000 in
set_option maxHeartbeats 8000000 in
theorem some_name1 (k n d : Int) (s : List UInt8) (w : World) (hk : modV k 7 = 0) (hd : modV d 5 = 1) : Calls Tryd.prog 10 #[tokV k n s d] w fun e w' => e = .returned (someT ⟨k, n, s, d⟩).val ∧ Below w.heap.size w w' := by
  have HM := Lib.hid (mod_any k 7)
  have HN := Lib.hid (mod_any d 5)
  have e : someT ⟨k, n, s, d⟩ = ⟨1, 0, [94, 94], 0⟩ := by unfold someT; rw [if_pos hk, hd]; rfl
  rw [e]
  rw [hk] at HM
  rw [hd] at HN
  have HB := Lib.hid (bel_new3 w)
  clear hk hd e
  unfold tokV
  go_enter Tryd.func10, Tryd.ntmps10
  go_wp2_with fail
  ((with_reducible refine (HM.out _ (by decide) (by decide)).mono ?_))
  rintro e w2 ⟨rfl, rfl⟩
  go_wp2_with fail
  ((with_reducible refine (HN.out _ (by decide) (by decide)).mono ?_))
  rintro e w2 ⟨rfl, rfl⟩
  go_wp2_with fail
  exact bodyPost_ret (v := TokI.val ⟨1, 0, [94, 94], 0⟩) (by simp [results, Tryd.results10, go_sem, TokI.val, tokV]) rfl ⟨rfl, HB.out _ _ _⟩
set_option maxRecDepth 100000 in
set_option maxHeartbeats 8000000 in
theorem some_name2 (k n d : Int) (s : List UInt8) (w : World) (hk : modV k 7 = 0) (hd : modV d 5 = 2) : Calls Tryd.prog 10 #[tokV k n s d] w fun e w' => e = .returned (someT ⟨k, n, s, d⟩).val ∧ Below w.heap.size w w' := by
  have HM := Lib.hid (mod_any k 7)
  have HN := Lib.hid (mod_any d 5)
  have e : someT ⟨k, n, s, d⟩ = ⟨1, 0, [65], 0⟩ := by unfold someT; rw [if_pos hk, hd]; rfl
  rw [e]
  rw [hk] at HM
  rw [hd] at HN
  have HB := Lib.hid (bel_new3 w)
  clear hk hd e
  unfold tokV
  go_enter Tryd.func10, Tryd.ntmps10
  go_wp2_with fail
  ((with_reducible refine (HM.out _ (by decide) (by decide)).mono ?_))
  rintro e w2 ⟨rfl, rfl⟩
  go_wp2_with fail
  ((with_reducible refine (HN.out _ (by decide) (by decide)).mono ?_))
  rintro e w2 ⟨rfl, rfl⟩
  go_wp2_with fail
  exact bodyPost_ret (v := TokI.val ⟨1, 0, [65], 0⟩) (by simp [results, Tryd.results10, go_sem, TokI.val, tokV]) rfl ⟨rfl, HB.out _ _ _⟩
set_option maxRecDepth 100000 in
set_option maxHeartbeats 8000000 in
theorem some_name3 (k n d : Int) (s : List UInt8) (w : World) (hk : modV k 7 = 0) (hd : modV d 5 = 3) : Calls Tryd.prog 10 #[tokV k n s d] w fun e w' => e = .returned (someT ⟨k, n, s, d⟩).val ∧ Below w.heap.size w w' := by
  have HM := Lib.hid (mod_any k 7)
  have HN := Lib.hid (mod_any d 5)
  have e : someT ⟨k, n, s, d⟩ = ⟨1, 0, [92, 95, 83, 66, 46, 67, 49], 0⟩ := by unfold someT; rw [if_pos hk, hd]; rfl
  rw [e]
  rw [hk] at HM
  rw [hd] at HN
  have HB := Lib.hid (bel_new3 w)
  clear hk hd e
  unfold tokV
  go_enter Tryd.func10, Tryd.ntmps10
  go_wp2_with fail
  ((with_reducible refine (HM.out _ (by decide) (by decide)).mono ?_))
  rintro e w2 ⟨rfl, rfl⟩
  go_wp2_with fail
  ((with_reducible refine (HN.out _ (by decide) (by decide)).mono ?_))
  rintro e w2 ⟨rfl, rfl⟩
  go_wp2_with fail
  exact bodyPost_ret (v := TokI.val ⟨1, 0, [92, 95, 83, 66, 46, 67, 49], 0⟩) (by simp [results, Tryd.results10, go_sem, TokI.val, tokV]) rfl ⟨rfl, HB.out _ _ _⟩
set_option maxRecDepth 100000 in
set_option maxHeartbeats 8000000 in
theorem some_name4 (k n d : Int) (s : List UInt8) (w : World) (hk : modV k 7 = 0) (hd : modV d 5 = 4) : Calls Tryd.prog 10 #[tokV k n s d] w fun e w' => e = .returned (someT ⟨k, n, s, d⟩).val ∧ Below w.heap.size w w' := by
  have HM := Lib.hid (mod_any k 7)
  have HN := Lib.hid (mod_any d 5)
  have e : someT ⟨k, n, s, d⟩ = ⟨1, 0, [94, 88, 95, 57, 90], 0⟩ := by unfold someT; rw [if_pos hk, hd]; rfl
  rw [e]
  rw [hk] at HM
  rw [hd] at HN
  have HB := Lib.hid (bel_new3 w)
  clear hk hd e
  unfold tokV
  go_enter Tryd.func10, Tryd.ntmps10
  go_wp2_with fail
  ((with_reducible refine (HM.out _ (by decide) (by decide)).mono ?_))
  rintro e w2 ⟨rfl, rfl⟩
  go_wp2_with fail
  ((with_reducible refine (HN.out _ (by decide) (by decide)).mono ?_))
  rintro e w2 ⟨rfl, rfl⟩
  go_wp2_with fail
  exact bodyPost_ret (v := TokI.val ⟨1, 0, [94, 88, 95, 57, 90], 0⟩) (by simp [results, Tryd.results10, go_sem, TokI.val, tokV]) rfl ⟨rfl, HB.out _ _ _⟩
set_option maxRecDepth 100000 in
set_option maxHeartbeats 8000000 in
theorem some_word0 (k n d : Int) (s : List UInt8) (w : World) (hk : modV k 7 = 1) (hd : modV d 5 = 0) : Calls Tryd.prog 10 #[tokV k n s d] w fun e w' => e = .returned (someT ⟨k, n, s, d⟩).val ∧ Below w.heap.size w w' := by
  have HM := Lib.hid (mod_any k 7)
  have HN := Lib.hid (mod_any d 5)
  have e : someT ⟨k, n, s, d⟩ = ⟨2, 0, [78, 97, 109, 101], 0⟩ := by unfold someT; rw [if_neg (by rw [hk]; decide), if_pos hk, hd]; rfl
  rw [e]
  rw [hk] at HM
  rw [hd] at HN
  have HB := Lib.hid (bel_new3 w)
  clear hk hd e
  unfold tokV
  go_enter Tryd.func10, Tryd.ntmps10
  go_wp2_with fail
  ((with_reducible refine (HM.out _ (by decide) (by decide)).mono ?_))
  rintro e w2 ⟨rfl, rfl⟩
  go_wp2_with fail
  ((with_reducible refine (HN.out _ (by decide) (by decide)).mono ?_))
  rintro e w2 ⟨rfl, rfl⟩
  go_wp2_with fail
  exact bodyPost_ret (v := TokI.val ⟨2, 0, [78, 97, 109, 101], 0⟩) (by simp [results, Tryd.results10, go_sem, TokI.val, tokV]) rfl ⟨rfl, HB.out _ _ _⟩
set_option maxRecDepth 100000 in
set_option maxHeartbeats 8000000 in
theorem some_word1 (k n d : Int) (s : List UInt8) (w : World) (hk : modV k 7 = 1) (hd : modV d 5 = 1) : Calls Tryd.prog 10 #[tokV k n s d] w fun e w' => e = .returned (someT ⟨k, n, s, d⟩).val ∧ Below w.heap.size w w' := by
  have HM := Lib.hid (mod_any k 7)
  have HN := Lib.hid (mod_any d 5)
  have e : someT ⟨k, n, s, d⟩ = ⟨2, 0, [120], 0⟩ := by unfold someT; rw [if_neg (by rw [hk]; decide), if_pos hk, hd]; rfl
  rw [e]
  rw [hk] at HM
  rw [hd] at HN
  have HB := Lib.hid (bel_new3 w)
  clear hk hd e
  unfold tokV
  go_enter Tryd.func10, Tryd.ntmps10
  go_wp2_with fail
  ((with_reducible refine (HM.out _ (by decide) (by decide)).mono ?_))
  rintro e w2 ⟨rfl, rfl⟩
  go_wp2_with fail
  ((with_reducible refine (HN.out _ (by decide) (by decide)).mono ?_))
  rintro e w2 ⟨rfl, rfl⟩
  go_wp2_with fail
  exact bodyPost_ret (v := TokI.val ⟨2, 0, [120], 0⟩) (by simp [results, Tryd.results10, go_sem, TokI.val, tokV]) rfl ⟨rfl, HB.out _ _ _⟩
set_option maxRecDepth 100000 in
set_option maxHeartbeats 8000000 in
theorem some_word2 (k n d : Int) (s : List UInt8) (w : World) (hk : modV k 7 = 1) (hd : modV d 5 = 2) : Calls Tryd.prog 10 #[tokV k n s d] w fun e w' => e = .returned (someT ⟨k, n, s, d⟩).val ∧ Below w.heap.size w w' := by
  have HM := Lib.hid (mod_any k 7)
  have HN := Lib.hid (mod_any d 5)
  have e : someT ⟨k, n, s, d⟩ = ⟨2, 0, [73, 102], 0⟩ := by unfold someT; rw [if_neg (by rw [hk]; decide), if_pos hk, hd]; rfl
  rw [e]
  rw [hk] at HM
  rw [hd] at HN
  have HB := Lib.hid (bel_new3 w)
  clear hk hd e
  unfold tokV
  go_enter Tryd.func10, Tryd.ntmps10
  go_wp2_with fail
  ((with_reducible refine (HM.out _ (by decide) (by decide)).mono ?_))
  rintro e w2 ⟨rfl, rfl⟩
  go_wp2_with fail
  ((with_reducible refine (HN.out _ (by decide) (by decide)).mono ?_))
  rintro e w2 ⟨rfl, rfl⟩
  go_wp2_with fail
  exact bodyPost_ret (v := TokI.val ⟨2, 0, [73, 102], 0⟩) (by simp [results, Tryd.results10, go_sem, TokI.val, tokV]) rfl ⟨rfl, HB.out _ _ _⟩
set_option maxRecDepth 100000 in
set_option maxHeartbeats 8000000 in
theorem some_word3 (k n d : Int) (s : List UInt8) (w : World) (hk : modV k 7 = 1) (hd : modV d 5 = 3) : Calls Tryd.prog 10 #[tokV k n s d] w fun e w' => e = .returned (someT ⟨k, n, s, d⟩).val ∧ Below w.heap.size w w' := by
  have HM := Lib.hid (mod_any k 7)
  have HN := Lib.hid (mod_any d 5)
  have e : someT ⟨k, n, s, d⟩ = ⟨2, 0, [76, 111, 99, 97, 108, 48], 0⟩ := by unfold someT; rw [if_neg (by rw [hk]; decide), if_pos hk, hd]; rfl
  rw [e]
  rw [hk] at HM
  rw [hd] at HN
  have HB := Lib.hid (bel_new3 w)
  clear hk hd e
  unfold tokV
  go_enter Tryd.func10, Tryd.ntmps10
  go_wp2_with fail
  ((with_reducible refine (HM.out _ (by decide) (by decide)).mono ?_))
  rintro e w2 ⟨rfl, rfl⟩
  go_wp2_with fail
  ((with_reducible refine (HN.out _ (by decide) (by decide)).mono ?_))
  rintro e w2 ⟨rfl, rfl⟩
  go_wp2_with fail
  exact bodyPost_ret (v := TokI.val ⟨2, 0, [76, 111, 99, 97, 108, 48], 0⟩) (by simp [results, Tryd.results10, go_sem, TokI.val, tokV]) rfl ⟨rfl, HB.out _ _ _⟩
set_option maxRecDepth 100000 in
set_option maxHeartbeats 8000000 in
theorem some_word4 (k n d : Int) (s : List UInt8) (w : World) (hk : modV k 7 = 1) (hd : modV d 5 = 4) : Calls Tryd.prog 10 #[tokV k n s d] w fun e w' => e = .returned (someT ⟨k, n, s, d⟩).val ∧ Below w.heap.size w w' := by
  have HM := Lib.hid (mod_any k 7)
  have HN := Lib.hid (mod_any d 5)
  have e : someT ⟨k, n, s, d⟩ = ⟨2, 0, [95, 97, 66, 57], 0⟩ := by unfold someT; rw [if_neg (by rw [hk]; decide), if_pos hk, hd]; rfl
  rw [e]
  rw [hk] at HM
  rw [hd] at HN
  have HB := Lib.hid (bel_new3 w)
  clear hk hd e
  unfold tokV
  go_enter Tryd.func10, Tryd.ntmps10
  go_wp2_with fail
  ((with_reducible refine (HM.out _ (by decide) (by decide)).mono ?_))
  rintro e w2 ⟨rfl, rfl⟩
  go_wp2_with fail
  ((with_reducible refine (HN.out _ (by decide) (by decide)).mono ?_))
  rintro e w2 ⟨rfl, rfl⟩
  go_wp2_with fail
  exact bodyPost_ret (v := TokI.val ⟨2, 0, [95, 97, 66, 57], 0⟩) (by simp [results, Tryd.results10, go_sem, TokI.val, tokV]) rfl ⟨rfl, HB.out _ _ _⟩
set_option maxRecDepth 100000 in
set_option maxHeartbeats 8000000 in
theorem some_int (k n d : Int) (s : List UInt8) (w : World) (hk : modV k 7 = 2) (hs : s.length ≤ 9223372036854775000) : Calls Tryd.prog 10 #[tokV k n s d] w fun e w' => e = .returned (someT ⟨k, n, s, d⟩).val ∧ Below w.heap.size w w' := by
  have HM := Lib.hid (mod_any k 7)
  have HN := Lib.hid (mod_any d 5)
  have e : someT ⟨k, n, s, d⟩ = ⟨3, n, [], 0⟩ := by unfold someT; rw [if_neg (by rw [hk]; decide), if_neg (by rw [hk]; decide), if_pos hk]
  rw [e]
  rw [hk] at HM
  have HB := Lib.hid (bel_new2 w)
  clear hk e
  unfold tokV
  go_enter Tryd.func10, Tryd.ntmps10
  go_wp2_with fail
  ((with_reducible refine (HM.out _ (by decide) (by decide)).mono ?_))
  rintro e w2 ⟨rfl, rfl⟩
  go_wp2_with fail
  exact bodyPost_ret (v := TokI.val ⟨3, n, [], 0⟩) (by simp [results, Tryd.results10, go_sem, TokI.val, tokV]) rfl ⟨rfl, HB.out _ _⟩
set_option maxRecDepth 100000 in
set_option maxHeartbeats 8000000 in
theorem some_str (k n d : Int) (s : List UInt8) (w : World) (hk : modV k 7 = 3) (hs : s.length ≤ 9223372036854775000) : Calls Tryd.prog 10 #[tokV k n s d] w fun e w' => e = .returned (someT ⟨k, n, s, d⟩).val ∧ Below w.heap.size w w' := by
  have HM := Lib.hid (mod_any k 7)
  have HN := Lib.hid (mod_any d 5)
  have e : someT ⟨k, n, s, d⟩ = ⟨4, 0, s.take 255, 0⟩ := by unfold someT; rw [if_neg (by rw [hk]; decide), if_neg (by rw [hk]; decide), if_neg (by rw [hk]; decide), if_pos hk]
  rw [e]
  rw [hk] at HM
  have HB := Lib.hid (bel_new2 w)
  have hb2 : List.take (min (s.length : Int) 255).toNat s = s.take 255 := by
    rw [show (min (s.length : Int) 255).toNat = min s.length 255 by omega, Nat.min_comm, ← List.take_take, List.take_length]
  obtain ⟨b2, hb3⟩ : ∃ b2, s.take 255 = b2 := ⟨_, rfl⟩
  rw [hb3] at hb2 ⊢
  clear hk e
  unfold tokV
  go_enter Tryd.func10, Tryd.ntmps10
  go_wp2_with fail
  ((with_reducible refine (HM.out _ (by decide) (by decide)).mono ?_))
  rintro e w2 ⟨rfl, rfl⟩
  go_wp2_with fail
  exact bodyPost_ret (v := TokI.val ⟨4, 0, b2, 0⟩) (by simp [results, Tryd.results10, go_sem, TokI.val, tokV]) rfl ⟨rfl, HB.out _ _⟩
set_option maxRecDepth 100000 in
set_option maxHeartbeats 8000000 in
theorem some_pun (k n d : Int) (s : List UInt8) (w : World) (hk : modV k 7 = 4) (hs : s.length ≤ 9223372036854775000) : Calls Tryd.prog 10 #[tokV k n s d] w fun e w' => e = .returned (someT ⟨k, n, s, d⟩).val ∧ Below w.heap.size w w' := by
  have HM := Lib.hid (mod_any k 7)
  have HN := Lib.hid (mod_any d 5)
  have e : someT ⟨k, n, s, d⟩ = ⟨5 + modV d 5, 0, [], 0⟩ := by unfold someT; rw [if_neg (by rw [hk]; decide), if_neg (by rw [hk]; decide), if_neg (by rw [hk]; decide), if_neg (by rw [hk]; decide), if_pos hk]
  rw [e]
  rw [hk] at HM
  have HB := Lib.hid (bel_new2 w)
  have h0 := modV_nonneg d 5 (by decide)
  have h5 := modV_lt d 5 (by decide)
  obtain ⟨M, hM⟩ : ∃ M, modV d 5 = M := ⟨_, rfl⟩
  rw [hM] at HN h0 h5 ⊢
  clear hk e
  unfold tokV
  go_enter Tryd.func10, Tryd.ntmps10
  go_wp2_with fail
  ((with_reducible refine (HM.out _ (by decide) (by decide)).mono ?_))
  rintro e w2 ⟨rfl, rfl⟩
  go_wp2_with fail
  ((with_reducible refine (HN.out _ (by decide) (by decide)).mono ?_))
  rintro e w2 ⟨rfl, rfl⟩
  go_wp2_with fail
  exact bodyPost_ret (v := TokI.val ⟨5 + M, 0, [], 0⟩) (by simp [results, Tryd.results10, go_sem, TokI.val, tokV]) rfl ⟨rfl, HB.out _ _⟩
set_option maxRecDepth 100000 in
set_option maxHeartbeats 8000000 in
theorem some_5 (k n d : Int) (s : List UInt8) (w : World) (hk : modV k 7 = 5) (hs : s.length ≤ 9223372036854775000) : Calls Tryd.prog 10 #[tokV k n s d] w fun e w' => e = .returned (someT ⟨k, n, s, d⟩).val ∧ Below w.heap.size w w' := by
  have HM := Lib.hid (mod_any k 7)
  have HN := Lib.hid (mod_any d 5)
  have e : someT ⟨k, n, s, d⟩ = ⟨k, n, s, d⟩ := by unfold someT; rw [if_neg (by rw [hk]; decide), if_neg (by rw [hk]; decide), if_neg (by rw [hk]; decide), if_neg (by rw [hk]; decide), if_neg (by rw [hk]; decide)]
  rw [e]
  rw [hk] at HM
  have HB := Lib.hid (bel_new2 w)
  clear hk e
  unfold tokV
  go_enter Tryd.func10, Tryd.ntmps10
  go_wp2_with fail
  ((with_reducible refine (HM.out _ (by decide) (by decide)).mono ?_))
  rintro e w2 ⟨rfl, rfl⟩
  go_wp2_with fail
  exact bodyPost_ret (v := TokI.val ⟨k, n, s, d⟩) (by simp [results, Tryd.results10, go_sem, TokI.val, tokV]) rfl ⟨rfl, HB.out _ _⟩
set_option maxRecDepth 100000 in
set_option maxHeartbeats 8000000 in
theorem some_6 (k n d : Int) (s : List UInt8) (w : World) (hk : modV k 7 = 6) (hs : s.length ≤ 9223372036854775000) : Calls Tryd.prog 10 #[tokV k n s d] w fun e w' => e = .returned (someT ⟨k, n, s, d⟩).val ∧ Below w.heap.size w w' := by
  have HM := Lib.hid (mod_any k 7)
  have HN := Lib.hid (mod_any d 5)
  have e : someT ⟨k, n, s, d⟩ = ⟨k, n, s, d⟩ := by unfold someT; rw [if_neg (by rw [hk]; decide), if_neg (by rw [hk]; decide), if_neg (by rw [hk]; decide), if_neg (by rw [hk]; decide), if_neg (by rw [hk]; decide)]
  rw [e]
  rw [hk] at HM
  have HB := Lib.hid (bel_new2 w)
  clear hk e
  unfold tokV
  go_enter Tryd.func10, Tryd.ntmps10
  go_wp2_with fail
  ((with_reducible refine (HM.out _ (by decide) (by decide)).mono ?_))
  rintro e w2 ⟨rfl, rfl⟩
  go_wp2_with fail
  exact bodyPost_ret (v := TokI.val ⟨k, n, s, d⟩) (by simp [results, Tryd.results10, go_sem, TokI.val, tokV]) rfl ⟨rfl, HB.out _ _⟩
theorem some_any (t : TokI) (w : World) (hs : t.str.length ≤ 9223372036854775000) : Calls Tryd.prog 10 #[t.val] w fun e w' => e = .returned (someT t).val ∧ Below w.heap.size w w' := by
  obtain ⟨k, n, s, d⟩ := t
  rcases seven (modV_nonneg k 7 (by decide)) (modV_lt k 7 (by decide)) with h | h | h | h | h | h | h
  · rcases five (modV_nonneg d 5 (by decide)) (modV_lt d 5 (by decide)) with h2 | h2 | h2 | h2 | h2
    · exact some_name0 k n d s w h h2
    · exact some_name1 k n d s w h h2
    · exact some_name2 k n d s w h h2
    · exact some_name3 k n d s w h h2
    · exact some_name4 k n d s w h h2
  · rcases five (modV_nonneg d 5 (by decide)) (modV_lt d 5 (by decide)) with h2 | h2 | h2 | h2 | h2
    · exact some_word0 k n d s w h h2
    · exact some_word1 k n d s w h h2
    · exact some_word2 k n d s w h h2
    · exact some_word3 k n d s w h h2
    · exact some_word4 k n d s w h h2
  · exact some_int k n d s w h hs
  · exact some_str k n d s w h hs
  · exact some_pun k n d s w h hs
  · exact some_5 k n d s w h hs
  · exact some_6 k n d s w h hs
end Go.Proofs.YtebmkalgdbkijaaDoor
